/-
  TopChockNewcomers returns true, for every argument: the law, and the last part of what it leans on.
-/
import Derived.KernelRfl
import Derived.Laws.RangeAny
import Derived.Lib.SplitLaws
import Derived.Test.YtlnlcdnpgjhaaacGreatDoorEvE
import Derived.Test.YtlnlcdnpgjhaaacGreatDoorEvX
import Derived.Test.YtlnlcdnpgjhaaacGreatDoorGood
import Derived.Test.YtlnlcdnpgjhaaacGreatDoorRead
import Derived.Test.YtlnlcdnpgjhaaacGreatDoorCnb
/-
 Priority: the lots of claims, by the program and by the reference.
-/
namespace Go.Proofs.YtlnlcdnpgjhaaacGreatDoor.Co
open Go Go.Evl
set_option maxRecDepth 100000
def nmAt (l : List Clm) (i : Int) : List UInt8 := ((l[i.toNat]?).map (·.rq.nm)).getD []
def ltN (l : List Clm) (a b : Int) : Bool := strLess (nmAt l a) (nmAt l b)
theorem nmAt_get {l : List Clm} {i : Int} (h : i.toNat < l.length) : nmAt l i = l[i.toNat].rq.nm := by
 unfold nmAt
 rw [List.getElem?_eq_getElem h]
 rfl
theorem ltN_tot {l : List Clm} (h : (nmsM l).Nodup) : Tot l.length (ltN l) := by
 refine ⟨fun a => strLess_irr _, fun a b c _ _ _ => strLess_trans, fun a b ha hb hab => strLess_tot fun e => ?_⟩
 have h1 := idL_mem.1 ha
 have h2 := idL_mem.1 hb
 have ha' : a.toNat < l.length := by omega
 have hb' : b.toNat < l.length := by omega
 rw [nmAt_get ha', nmAt_get hb'] at e
 have hw := List.pairwise_iff_getElem.1 h
 have hla : a.toNat < (nmsM l).length := by simp [nmsM]; omega
 have hlb : b.toNat < (nmsM l).length := by simp [nmsM]; omega
 rcases Nat.lt_trichotomy a.toNat b.toNat with hh | hh | hh
 ·exact hw _ _ hla hlb hh (by simp [nmsM, e])
 ·omega
 ·exact hw _ _ hlb hla hh (by simp [nmsM, e])
def lotL (key : Int) (l : List Clm) : List Int := (idL l.length).map fun i => (drawAll key l.length).getD (placeL l.length (ltN l) i) 0
theorem lotL_length (key : Int) (l : List Clm) : (lotL key l).length = l.length := by simp [lotL, idL_length]
theorem drawAll_length (key : Int) (n : Nat) : (drawAll key n).length = n := by
 unfold drawAll
 rw [drawL_length, idL_length]
structure Lts (n : Nat) (s d : List Int) (k : Nat) (T : List Int) : Prop where
 len : T.length = n
 got : ∀ j, j < k → T.getD (s.getD j 0).toNat 0 = d.getD j 0
theorem Lts.step {n : Nat} {lt : Int → Int → Bool} {s d T : List Int} {k : Nat} (t : Tot n lt) (hs : Srt n lt s) (h : Lts n s d k T) (hk : k < n) : Lts n s d (k + 1) (T.set (s.getD k 0).toNat (d.getD k 0)) := by
 have hl := hs.len
 have hg : ∀ j (hj : j < n), s.getD j 0 = s[j]'(by omega) := fun j hj => by simp [List.getD, show j < s.length by omega]
 have hm : ∀ j, j < n → 0 ≤ s.getD j 0 ∧ s.getD j 0 < n := fun j hj => by
  rw [hg j hj]
  exact idL_mem.1 (hs.mem (by omega))
 refine ⟨by rw [List.length_set]; exact h.len, fun j hj => ?_⟩
 have h1 := hm k hk
 have h2 := hm j (by omega)
 rw [getD_set _ _ _ _ (by rw [h.len]; omega)]
 by_cases e : j = k
 ·subst e
  rw [if_pos rfl]
 ·have hne : s.getD j 0 ≠ s.getD k 0 := fun hc => by
   rw [hg j (by omega), hg k hk] at hc
   have := List.pairwise_iff_getElem.1 hs.up j k (by omega) (by omega) (by omega)
   rw [hc, t.irr] at this
   cases this
  rw [if_neg (by omega)]
  exact h.got j (by omega)
theorem Lts.done {key : Int} {l : List Clm} {s T : List Int} (hn : (nmsM l).Nodup) (hs : Srt l.length (ltN l) s) (h : Lts l.length s (drawAll key l.length) l.length T) : T = lotL key l := by
 have t := ltN_tot hn
 refine List.ext_getElem (by rw [h.len, lotL_length]) fun i h1 h2 => ?_
 have hi : i < l.length := by rw [h.len] at h1; exact h1
 have hmem : (i : Int) ∈ idL l.length := idL_mem.2 (by omega)
 have hu := hs.uniq t hmem
 have hp := (List.getElem?_eq_some_iff.1 hu).1
 rw [hs.len] at hp
 have hg := h.got _ hp
 have e0 : s.getD (placeL l.length (ltN l) i) 0 = i := by rw [List.getD, hu]; rfl
 rw [e0, Int.toNat_natCast, List.getD, List.getElem?_eq_getElem h1] at hg
 refine Eq.trans hg ?_
 simp [lotL, idL]
section
variable {E : Oracle} (g : Good E)
include g
theorem CallS.indices {n : Nat} {cx : Cx} {slot : Nat} {m : Mem} {K : V → Mem → Prop} (hn : n ≤ 1000) (hf : Go.Evl.freeK cx.lv slot m = 0) (h : K (.ref ⟨cx.lv, slot, 0⟩ 0 n n) (m ++ [(⟨cx.lv, slot, 0⟩, .row true ty_int 1 n ((idL n).map DI))])) : CallS E n_priority_indices [I n] cx slot m K := by
 obtain ⟨v, m', h1, rfl, rfl⟩ := (in_indices g n hn).got
 refine ⟨_, _, (.ref ⟨cx.lv, slot, 0⟩ 0 n n, m ++ [(⟨cx.lv, slot, 0⟩, .row true ty_int 1 n ((idL n).map DI))]), h1, ?_, h⟩
 have := settle_row (cx := cx) (slot := slot) (lo := 0) (old := m) (o := ⟨0, 3, 0⟩) (off := 0) (l := n) (top := n) (m := [(⟨0, 2, 0⟩, .row true ty_int 1 0 []), (⟨0, 3, 0⟩, .row true ty_int 1 n ((idL n).map DI))]) (Nat.zero_le _) rfl
 rw [hf] at this
 exact this
theorem in_lots1 (l : List Clm) (x y : Int) (s : List Int) {K : V → Mem → Prop} (hx : x ∈ idL l.length) (hy : y ∈ idL l.length)
  (hK : ∀ c : Int, (c < 0 ↔ ltN l x y = true) → K (I c) [(⟨0, 3, 0⟩, .cells ty_Lpriority_Claim [LM l]), (⟨0, 4, 0⟩, .row true ty_int 1 0 []), (⟨0, 13, 0⟩, .row true ty_int 1 l.length (s.map DI))]) :
  In E 4 n_priority_lots_1 [I x, I y, .ptr ⟨0, 3, 0⟩ 0 0] [(⟨0, 3, 0⟩, .cells ty_Lpriority_Claim [LM l]), (⟨0, 4, 0⟩, .row true ty_int 1 0 []), (⟨0, 13, 0⟩, .row true ty_int 1 l.length (s.map DI))] K := by
 have h1 := idL_mem.1 hx
 have h2 := idL_mem.1 hy
 have hx' : x.toNat < l.length := by omega
 have hy' : y.toNat < l.length := by omega
 have hc := s_CmpS g l[x.toNat].rq.nm l[y.toNat].rq.nm
 have hk := hK (cmpS l[x.toNat].rq.nm l[y.toNat].rq.nm) (by unfold ltN; rw [nmAt_get hx', nmAt_get hy']; exact cmpS_lt _ _)
 refine In.enter (f := n_priority_lots_1) g.lim rfl rfl ?_
 repeat' ((conv => whnf); first
 | refine Yz ?_
  | (refine Pick.rec00 Clm.cells_length x.toNat (by omega) hx' rfl ?_)
  | (refine Pick.rec00 Clm.cells_length y.toNat (by omega) hy' rfl ?_)
  | (apply CallI.of; assumption)
  | (exact hk))
set_option maxHeartbeats 8000000 in
theorem s_lots (key : Int) (l : List Clm) (hk : 1 ≤ key ∧ key ≤ 2147483646) (hl : l.length ≤ 12) (hn : (nmsM l).Nodup) : Fc E n_priority_lots [I key, LM l] (LI (lotL key l)) := by
 refine g.fn rfl rfl ?_
 have t := ltN_tot hn
 have hd := s_Draw g key l.length hk (by omega)
 have hdl := drawAll_length key l.length
 have hsort := fun {K} => in_sortL g (K := K) t hl n_priority_lots_1 (.list l.length (l.flatMap Clm.cells)) (fun x y s K hx hy hK => in_lots1 g l x y s hx hy hK)
 repeat' ((conv => whnf); first
 | refine Yz ?_
  | (refine CallS.indices g (by omega) rfl ?_)
  | (refine hsort fun s hs => ?_)
  | (refine CallI.of hd ?_)
  | (refine Need.mk ⟨by omega, rfl, by omega, by omega⟩ ?_))
 have hsl := hs.len
 refine LoopW.to (LoopW.by g (fun u : Nat × List Int => u.1 ≤ l.length ∧ Lts l.length s (drawAll key l.length) u.1 u.2)
  (fun u => [(6, LI (drawAll key l.length)), (8, .ref ⟨0, 26, 0⟩ 0 l.length l.length), (27, .ref ⟨0, 13, 0⟩ 0 l.length l.length), (28, I l.length), (29, I u.1)])
  (fun u => [(⟨0, 3, 0⟩, .cells ty_Lpriority_Claim [LM l]), (⟨0, 4, 0⟩, .row true ty_int 1 0 []), (⟨0, 13, 0⟩, .row true ty_int 1 l.length (s.map DI)), (⟨0, 26, 0⟩, .row true ty_int 1 l.length (u.2.map DI))])
  (fun u => l.length - u.1) (fun u hu ih => ?_) (0, List.replicate l.length 0) ⟨Nat.zero_le _, by simp, fun j hj => absurd hj (Nat.not_lt_zero _)⟩) rfl ?_
 ·obtain ⟨k, T⟩ := u
  obtain ⟨hk1, hT⟩ := hu
  dsimp only at hk1 hT ih ⊢
  have hTl := hT.len
  by_cases hlt : k < l.length
  ·have ih := ih (k + 1, T.set (s.getD k 0).toNat ((drawAll key l.length).getD k 0)) ⟨hlt, hT.step t hs hlt⟩ (by simp only; omega)
   dsimp only at ih
   have hks : k < s.length := by omega
   have hkd : k < (drawAll key l.length).length := by omega
   have hm := idL_mem.1 (hs.mem hks)
   have e1 : s.getD k 0 = s[k] := by simp [List.getD, hks]
   have e2 : (drawAll key l.length).getD k 0 = (drawAll key l.length)[k] := by simp [List.getD, hkd]
   rw [e1, e2] at ih
   have hp := patch_set T s[k].toNat (drawAll key l.length)[k] (by omega)
   generalize drawAll key l.length = d at *
   repeat' ((conv => whnf); first
   | refine Yz ?_
    | (refine Pick.intI0 k rfl hks ?_)
    | (refine Pick.intI k rfl hkd ?_)
    | (refine LoopW.to ih rfl ?_))
   simp only [Nat.zero_add, Nat.mul_one]
   rw [hp]
  ·obtain rfl : k = l.length := by omega
   have he := hT.done hn hs
   subst he
   have hll := lotL_length key l
   repeat' ((conv => whnf); first
   | refine Yz ?_
    | (refine Ret.mk ?_))
   rw [if_pos ⟨rfl, rfl⟩]
   show V.d (.list l.length _) = V.d (.list (lotL key l).length _)
   rw [hll]
 ·simp
end
end Go.Proofs.YtlnlcdnpgjhaaacGreatDoor.Co
/-
 Places given in turns to newcomers and others: the plain law.
-/
namespace Go.Proofs.YtlnlcdnpgjhaaacGreatDoor.Co
def pickQ : Bool → List Int → List Int → Option (Int × List Int × List Int)
 | true, a :: A, C => some (a, A, C)
 | true, [], c :: C => some (c, [], C)
 | false, A, c :: C => some (c, A, C)
 | false, a :: A, [] => some (a, A, [])
 | _, [], [] => none
def shrG (m fo : Int) : Nat → Nat → List Int → List Int → List Int
 | 0, _, _, _ => []
 | n + 1, i, A, C => match pickQ (decide ((i : Int) % m < fo)) A C with
  | some (x, A', C') => x :: shrG m fo n (i + 1) A' C'
  | none => []
def selG (v : Bool) : Nat → List Bool → List Int
 | _, [] => []
 | k, b :: r => if b = v then (k : Int) :: selG v (k + 1) r else selG v (k + 1) r
def shrL (m fo : Int) (l : List Bool) : List Int := shrG m fo l.length 0 (selG true 0 l) (selG false 0 l)
theorem selG_append (v b : Bool) : ∀ (k : Nat) (l : List Bool), selG v k (l ++ [b]) = selG v k l ++ (if b = v then [((k + l.length : Nat) : Int)] else [])
 | k, [] => by simp [selG]
 | k, x :: r => by
  simp only [List.cons_append, selG]
  rw [selG_append v b (k + 1) r, List.length_cons, show k + 1 + r.length = k + (r.length + 1) by omega]
  split <;> rfl
theorem selG_take (v : Bool) {l : List Bool} {k : Nat} (h : k < l.length) : selG v 0 (l.take (k + 1)) = selG v 0 (l.take k) ++ (if l[k] = v then [(k : Int)] else []) := by
 rw [List.take_add_one, List.getElem?_eq_getElem h]
 show selG v 0 (l.take k ++ [l[k]]) = _
 rw [selG_append, List.length_take, Nat.min_eq_left (by omega), Nat.zero_add]
theorem selG_length : ∀ (k : Nat) (l : List Bool), (selG true k l).length + (selG false k l).length = l.length
 | _, [] => rfl
 | k, b :: r => by
  have := selG_length (k + 1) r
  cases b <;> simp only [selG, reduceIte, reduceCtorEq, List.length_cons] <;> omega
theorem selG_le (v : Bool) (k : Nat) (l : List Bool) : (selG v k l).length ≤ l.length := by
 have := selG_length k l
 cases v <;> omega
theorem pickQ_len {w : Bool} {A C A' C' : List Int} {x : Int} (h : pickQ w A C = some (x, A', C')) : A'.length + C'.length + 1 = A.length + C.length := by
 cases w <;> cases A <;> cases C <;> simp [pickQ] at h <;> obtain ⟨rfl, rfl, rfl⟩ := h <;> simp <;> omega
theorem pickQ_some {w : Bool} {A C : List Int} (h : 0 < A.length + C.length) : ∃ x A' C', pickQ w A C = some (x, A', C') := by
 cases w <;> cases A <;> cases C <;> simp [pickQ] at h ⊢
end Go.Proofs.YtlnlcdnpgjhaaacGreatDoor.Co
/-
 Places given in turns: what holds of the order, in plain Lean.
-/
namespace Go.Proofs.YtlnlcdnpgjhaaacGreatDoor.Co
open Go Go.Evl
theorem pickQ_cases {w : Bool} {A C A' C' : List Int} {x : Int} (h : pickQ w A C = some (x, A', C')) : (A = x :: A' ∧ C' = C ∧ (w = true ∨ C = [])) ∨ (C = x :: C' ∧ A' = A ∧ (w = false ∨ A = [])) := by
 cases w <;> cases A <;> cases C <;> simp [pickQ] at h <;> obtain ⟨rfl, rfl, rfl⟩ := h <;> simp
theorem shrG_perm (m fo : Int) : ∀ (n i : Nat) (A C : List Int), A.length + C.length = n → (shrG m fo n i A C).Perm (A ++ C)
 | 0, i, A, C, h => by
  have h1 : A = [] := List.length_eq_zero_iff.1 (by omega)
  have h2 : C = [] := List.length_eq_zero_iff.1 (by omega)
  subst h1
  subst h2
  exact .refl _
 | n + 1, i, A, C, h => by
  obtain ⟨x, A', C', hp⟩ := pickQ_some (w := decide ((i : Int) % m < fo)) (A := A) (C := C) (by omega)
  have hl := pickQ_len hp
  have ih := shrG_perm m fo n (i + 1) A' C' (by omega)
  rw [shrG, hp]
  rcases pickQ_cases hp with ⟨rfl, rfl, _⟩ | ⟨rfl, rfl, _⟩
  ·exact ih.cons x
  ·exact (ih.cons x).trans List.perm_middle.symm
theorem shrG_length (m fo : Int) {n i : Nat} {A C : List Int} (h : A.length + C.length = n) : (shrG m fo n i A C).length = n := by
 rw [(shrG_perm m fo n i A C h).length_eq, List.length_append, h]
theorem selG_mem {v : Bool} {x : Int} : ∀ {k : Nat} {l : List Bool}, x ∈ selG v k l → ∃ i : Nat, x = ((k + i : Nat) : Int) ∧ l[i]? = some v
 | k, [], h => by simp [selG] at h
 | k, b :: r, h => by
  have tl : x ∈ selG v (k + 1) r → ∃ i : Nat, x = ((k + i : Nat) : Int) ∧ (b :: r)[i]? = some v := by
   intro h
   obtain ⟨i, rfl, h1⟩ := selG_mem h
   exact ⟨i + 1, by omega, by simpa using h1⟩
  simp only [selG] at h
  split at h
  ·rename_i hc
   subst hc
   rcases List.mem_cons.1 h with rfl | h
   ·exact ⟨0, by simp, rfl⟩
   ·exact tl h
  ·exact tl h
theorem selG_up (v : Bool) : ∀ (k : Nat) (l : List Bool), (selG v k l).Pairwise (· < ·)
 | _, [] => .nil
 | k, b :: r => by
  have ih := selG_up v (k + 1) r
  simp only [selG]
  split
  ·refine .cons (fun x hx => ?_) ih
   obtain ⟨i, rfl, _⟩ := selG_mem hx
   omega
  ·exact ih
theorem shrL_length (m fo : Int) (l : List Bool) : (shrL m fo l).length = l.length := shrG_length m fo (selG_length 0 l)
theorem shrL_ord (m fo : Int) (l : List Bool) : Ord l.length (shrL m fo l) := by
 have hp : (shrL m fo l).Perm (selG true 0 l ++ selG false 0 l) := shrG_perm m fo _ _ _ _ (selG_length 0 l)
 have hl := shrL_length m fo l
 have hn : (shrL m fo l).Nodup := by
  rw [hp.nodup_iff, List.nodup_append]
  refine ⟨(selG_up true 0 l).imp fun h => by omega, (selG_up false 0 l).imp fun h => by omega, fun a ha b hb hab => ?_⟩
  obtain ⟨i, h1, h2⟩ := selG_mem ha
  obtain ⟨j, h3, h4⟩ := selG_mem hb
  have : i = j := by omega
  subst this
  rw [h2] at h4
  cases h4
 have hg : ∀ k, k < l.length → (shrL m fo l).getD k 0 ∈ shrL m fo l := fun k hk => by
  have hk' : k < (shrL m fo l).length := by omega
  simp [List.getD, hk']
 refine ⟨hl, fun k hk => ?_, fun i j hi hj e => ?_⟩
 ·have hm := hp.mem_iff.1 (hg k hk)
  rcases List.mem_append.1 hm with h | h
  ·obtain ⟨i, h1, h2⟩ := selG_mem h
   have := (List.getElem?_eq_some_iff.1 h2).1
   omega
  ·obtain ⟨i, h1, h2⟩ := selG_mem h
   have := (List.getElem?_eq_some_iff.1 h2).1
   omega
 ·have hi' : i < (shrL m fo l).length := by omega
  have hj' : j < (shrL m fo l).length := by omega
  simp only [List.getD, List.getElem?_eq_getElem hi', List.getElem?_eq_getElem hj', Option.getD_some] at e
  have hw := List.pairwise_iff_getElem.1 hn
  rcases Nat.lt_trichotomy i j with h | h | h
  ·exact absurd e (hw i j hi' hj' h)
  ·exact h
  ·exact absurd e.symm (hw j i hj' hi' h)
structure Quo (l : List Bool) (tot : Nat) (i : Nat) (A C : List Int) (got due la lc : Int) : Prop where
 hg : got + A.length = tot
 hc : (i : Int) - got + C.length + tot = l.length
 lo : got ≥ tot ∨ got ≥ due
 hi : got ≤ due ∨ got ≤ i + tot - l.length
 ua : A.Pairwise (· < ·)
 uc : C.Pairwise (· < ·)
 fa : ∀ x ∈ A, la ≤ x
 fc : ∀ x ∈ C, lc ≤ x
 na : ∀ x ∈ A, ∃ k : Nat, x = k ∧ l[k]? = some true
 nc : ∀ x ∈ C, ∃ k : Nat, x = k ∧ l[k]? = some false
 du : 0 ≤ due ∧ due ≤ i
 tl : tot ≤ l.length
theorem Quo.zero (l : List Bool) : Quo l (selG true 0 l).length 0 (selG true 0 l) (selG false 0 l) 0 0 (-1) (-1) := by
 have h := selG_length 0 l
 refine ⟨by omega, by omega, .inr (by omega), .inl (by omega), selG_up _ _ _, selG_up _ _ _, fun x hx => ?_, fun x hx => ?_, fun x hx => ?_, fun x hx => ?_, by omega, by omega⟩
 all_goals obtain ⟨i, h1, h2⟩ := selG_mem hx
 ·omega
 ·omega
 ·exact ⟨i, by omega, h2⟩
 ·exact ⟨i, by omega, h2⟩
theorem Quo.new {l : List Bool} {tot i : Nat} {C : List Int} {x : Int} {A : List Int} {got due la lc : Int} {w : Bool} (h : Quo l tot i (x :: A) C got due la lc) (hw : w = true ∨ C = []) : Quo l tot (i + 1) A C (got + 1) (due + if w then 1 else 0) x lc := by
 obtain ⟨hg, hc, lo, hi, ua, uc, fa, fc, na, nc, du, tl⟩ := h
 rw [List.length_cons] at hg
 have h1 := List.pairwise_cons.1 ua
 refine ⟨by omega, by omega, ?_, ?_, h1.2, uc, fun y hy => by have := h1.1 y hy; omega, fc, fun y hy => na y (List.mem_cons_of_mem _ hy), nc, by split <;> omega, tl⟩
 ·cases w
  ·rcases lo with lo | lo
   ·exact .inl (by omega)
   ·exact .inr (by simp; omega)
  ·rcases lo with lo | lo
   ·exact .inl (by omega)
   ·exact .inr (by simp; omega)
 ·rcases hw with rfl | rfl
  ·rcases hi with hi | hi
   ·exact .inl (by simp; omega)
   ·exact .inr (by omega)
  ·rw [List.length_nil] at hc
   exact .inr (by omega)
theorem Quo.old {l : List Bool} {tot i : Nat} {C : List Int} {x : Int} {A : List Int} {got due la lc : Int} {w : Bool} (h : Quo l tot i A (x :: C) got due la lc) (hw : w = false ∨ A = []) : Quo l tot (i + 1) A C got (due + if w then 1 else 0) la x := by
 obtain ⟨hg, hc, lo, hi, ua, uc, fa, fc, na, nc, du, tl⟩ := h
 rw [List.length_cons] at hc
 have h1 := List.pairwise_cons.1 uc
 refine ⟨by omega, by omega, ?_, ?_, ua, h1.2, fa, fun y hy => by have := h1.1 y hy; omega, na, fun y hy => nc y (List.mem_cons_of_mem _ hy), by split <;> omega, tl⟩
 ·rcases hw with rfl | rfl
  ·rcases lo with lo | lo
   ·exact .inl (by omega)
   ·exact .inr (by simp; omega)
  ·rw [List.length_nil] at hg
   exact .inl (by omega)
 ·rcases hi with hi | hi
  ·exact .inl (by split <;> omega)
  ·exact .inr (by omega)
end Go.Proofs.YtlnlcdnpgjhaaacGreatDoor.Co
/-
 Priority: the order of a list by a share; by the program and by the reference.
-/
namespace Go.Proofs.YtlnlcdnpgjhaaacGreatDoor.Co
open Go Go.Evl
set_option maxRecDepth 100000
abbrev LB (l : List Bool) : V := .d (.list l.length (l.map D.bool))
theorem Pick.boolI {l : List Bool} {i : Int} {K : D → Prop} (k : Nat) (hi : i = k) (h : k < l.length) (hk : K (.bool l[k])) : Pick (l.map D.bool) (i.toNat * 1) K := by
 subst hi
 refine ⟨⟨_, ?_, hk⟩⟩
 simp [h]
def leftV (t : Bool) (o : Evl.Id) (A0 A : List Int) : V := if t = true then LI A else .ref o 0 A0.length A0.length
theorem take_map (l : List Int) : List.take l.length (l.map DI) = l.map DI := List.take_of_length_le (by simp)
structure ShS where
 i : Nat
 (A C : List Int)
 (ta tc : Bool)
 out : List Int
section
variable {E : Oracle} (g : Good E)
include g
set_option maxHeartbeats 32000000 in
theorem s_interleaved (m fo : Int) (l : List Bool) (hm : 1 ≤ m ∧ m ≤ 100) (hl : l.length ≤ 64) : Fc E n_priority_interleaved [I m, I fo, LB l] (LI (shrL m fo l)) := by
 refine g.fn rfl rfl ?_
 have b0 : Fc E n_priority_bit [B false] (I 0) := s_pbit g false
 have b1 : Fc E n_priority_bit [B true] (I 1) := s_pbit g true
 have hAC := selG_length 0 l
 unfold shrL
 repeat' ((conv => whnf); first
 | refine Yz ?_)
 refine LoopW.to (LoopW.up g (fun k => [(0, I m), (1, I fo), (2, LB l), (7, .ptr ⟨0, 7, 2⟩ 0 0), (13, LB l), (14, I l.length), (15, I k)])
  (fun k => [(⟨0, 6, 0⟩, .row false ty_int 1 0 []), (⟨0, 7, 0⟩, .row false ty_int 1 (selG true 0 (l.take k)).length ((selG true 0 (l.take k)).map DI)), (⟨0, 7, 1⟩, .row false ty_int 1 (selG false 0 (l.take k)).length ((selG false 0 (l.take k)).map DI)), (⟨0, 7, 2⟩, .cells ty_2_Lint [.ref ⟨0, 7, 0⟩ 0 (selG true 0 (l.take k)).length (selG true 0 (l.take k)).length, .ref ⟨0, 7, 1⟩ 0 (selG false 0 (l.take k)).length (selG false 0 (l.take k)).length])])
  l.length (fun k hk ih => ?_) 0 (Nat.zero_le _)) rfl rfl
 have l1 := selG_le true 0 (l.take k)
 have l2 := selG_le false 0 (l.take k)
 have l3 : (l.take k).length = k := by simp; omega
 by_cases hlt : k < l.length
 ·have ih := ih hlt
  rw [selG_take true hlt, selG_take false hlt] at ih
  generalize hx : l[k] = x at *
  generalize selG true 0 (l.take k) = A at *
  generalize selG false 0 (l.take k) = C at *
  cases x
  ·simp only [reduceCtorEq, if_false, if_true, List.append_nil, List.length_append, List.length_cons, List.length_nil, List.map_append, List.map_cons, List.map_nil] at ih
   repeat' ((conv => whnf); first
   | refine Yz ?_
    | (refine Pick.boolI k rfl hlt ?_; rw [hx])
    | (apply CallI.of; assumption)
    | (refine Need.mk (by simp only [List.length_cons, List.length_nil, List.length_map]; omega) ?_)
    | (refine LoopW.to ih rfl rfl))
  ·simp only [reduceCtorEq, if_false, if_true, List.append_nil, List.length_append, List.length_cons, List.length_nil, List.map_append, List.map_cons, List.map_nil] at ih
   repeat' ((conv => whnf); first
   | refine Yz ?_
    | (refine Pick.boolI k rfl hlt ?_; rw [hx])
    | (apply CallI.of; assumption)
    | (refine Need.mk (by simp only [List.length_cons, List.length_nil, List.length_map]; omega) ?_)
    | (refine LoopW.to ih rfl rfl))
 ·have hk' : k = l.length := by omega
  subst hk'
  rw [List.take_length] at *
  generalize hA0 : selG true 0 l = A0 at *
  generalize hC0 : selG false 0 l = C0 at *
  generalize hR : shrG m fo l.length 0 A0 C0 = R
  repeat' ((conv => whnf); first
  | refine Yz ?_)
  refine LoopW.to (LoopW.by g (fun s : ShS => s.out ++ shrG m fo (l.length - s.i) s.i s.A s.C = R ∧ s.A.length + s.C.length + s.i = l.length ∧ s.out.length = s.i ∧ (s.ta = false → s.A = A0) ∧ (s.tc = false → s.C = C0))
   (fun s => [(0, I m), (1, I fo), (7, .ptr ⟨0, 7, 2⟩ 0 0), (10, .ref ⟨0, 10, 0⟩ 0 s.out.length s.out.length), (34, I l.length), (35, I s.i)])
   (fun s => [(⟨0, 6, 0⟩, .row false ty_int 1 0 []), (⟨0, 7, 0⟩, .row false ty_int 1 A0.length (A0.map DI)), (⟨0, 7, 1⟩, .row false ty_int 1 C0.length (C0.map DI)), (⟨0, 7, 2⟩, .cells ty_2_Lint [leftV s.ta ⟨0, 7, 0⟩ A0 s.A, leftV s.tc ⟨0, 7, 1⟩ C0 s.C]), (⟨0, 10, 0⟩, .row false ty_int 1 s.out.length (s.out.map DI))])
   (fun s => l.length - s.i) (fun s hs ih => ?_) ⟨0, A0, C0, false, false, []⟩ ⟨by simpa using hR, by simpa using hAC, rfl, fun _ => rfl, fun _ => rfl⟩) rfl rfl
  obtain ⟨i, A, C, ta, tc, out⟩ := s
  obtain ⟨h1, h2, h3, h4, h5⟩ := hs
  dsimp only at h1 h2 h3 h4 h5 ih ⊢
  by_cases hlt : i < l.length
  ·obtain ⟨x, A', C', hp⟩ := pickQ_some (w := decide ((i : Int) % m < fo)) (A := A) (C := C) (by omega)
   have hn : l.length - i = (l.length - (i + 1)) + 1 := by omega
   rw [hn, shrG, hp] at h1
   have hq := pickQ_len hp
   have ihn := ih ⟨i + 1, A', C', true, tc, out ++ [x]⟩
   have iho := ih ⟨i + 1, A', C', ta, true, out ++ [x]⟩
   dsimp only at ihn iho
   have hw := Int.emod_nonneg (i : Int) (show m ≠ 0 by omega)
   rcases pickQ_cases hp with ⟨rfl, rfl, hc⟩ | ⟨rfl, rfl, hc⟩
   ·have ihn := ihn ⟨by simpa using h1, by omega, by simp [h3], by simp, h5⟩ (by omega)
    simp only [List.length_append, List.length_cons, List.length_nil, List.map_append, List.map_cons, List.map_nil] at ihn
    cases ta
    ·have h4 := h4 rfl
     subst h4
     cases hwd : decide ((i : Int) % m < fo)
     ·have hwf := of_decide_eq_false hwd
      rw [hwd] at hc
      have hc : C' = [] := by simpa using hc
      subst hc
      cases tc
      ·have h5 := h5 rfl
       subst h5
       repeat' ((conv => whnf); first
       | refine Yz ?_
        | (apply CallI.of; assumption)
        | (refine Need.mk (by simp only [List.length_cons, List.length_nil, List.length_map]; omega) ?_)
        | (refine Bounds.at 1 (A'.length + 1) rfl rfl ⟨by omega, by simp⟩ ?_)
        | (refine LoopW.to ihn rfl ?_))
       simp [leftV, win, take_map]
      ·repeat' ((conv => whnf); first
      | refine Yz ?_
        | (apply CallI.of; assumption)
        | (refine Need.mk (by simp only [List.length_cons, List.length_nil, List.length_map]; omega) ?_)
        | (refine Bounds.at 1 (A'.length + 1) rfl rfl ⟨by omega, by simp⟩ ?_)
        | (refine LoopW.to ihn rfl ?_))
       simp [leftV, win, take_map]
     ·have hwf := of_decide_eq_true hwd
      cases tc
      ·have h5 := h5 rfl
       subst h5
       repeat' ((conv => whnf); first
       | refine Yz ?_
        | (apply CallI.of; assumption)
        | (refine Need.mk (by simp only [List.length_cons, List.length_nil, List.length_map]; omega) ?_)
        | (refine Bounds.at 1 (A'.length + 1) rfl rfl ⟨by omega, by simp⟩ ?_)
        | (refine LoopW.to ihn rfl ?_))
       simp [leftV, win, take_map]
      ·repeat' ((conv => whnf); first
      | refine Yz ?_
        | (apply CallI.of; assumption)
        | (refine Need.mk (by simp only [List.length_cons, List.length_nil, List.length_map]; omega) ?_)
        | (refine Bounds.at 1 (A'.length + 1) rfl rfl ⟨by omega, by simp⟩ ?_)
        | (refine LoopW.to ihn rfl ?_))
       simp [leftV, win, take_map]
    ·cases hwd : decide ((i : Int) % m < fo)
     ·have hwf := of_decide_eq_false hwd
      rw [hwd] at hc
      have hc : C' = [] := by simpa using hc
      subst hc
      cases tc
      ·have h5 := h5 rfl
       subst h5
       repeat' ((conv => whnf); first
       | refine Yz ?_
        | (apply CallI.of; assumption)
        | (refine Need.mk (by simp only [List.length_cons, List.length_nil, List.length_map]; omega) ?_)
        | (refine Bounds.at 1 (A'.length + 1) rfl rfl ⟨by omega, by simp⟩ ?_)
        | (refine LoopW.to ihn rfl ?_))
       simp [leftV, win, take_map]
      ·repeat' ((conv => whnf); first
      | refine Yz ?_
        | (apply CallI.of; assumption)
        | (refine Need.mk (by simp only [List.length_cons, List.length_nil, List.length_map]; omega) ?_)
        | (refine Bounds.at 1 (A'.length + 1) rfl rfl ⟨by omega, by simp⟩ ?_)
        | (refine LoopW.to ihn rfl ?_))
       simp [leftV, win, take_map]
     ·have hwf := of_decide_eq_true hwd
      cases tc
      ·have h5 := h5 rfl
       subst h5
       repeat' ((conv => whnf); first
       | refine Yz ?_
        | (apply CallI.of; assumption)
        | (refine Need.mk (by simp only [List.length_cons, List.length_nil, List.length_map]; omega) ?_)
        | (refine Bounds.at 1 (A'.length + 1) rfl rfl ⟨by omega, by simp⟩ ?_)
        | (refine LoopW.to ihn rfl ?_))
       simp [leftV, win, take_map]
      ·repeat' ((conv => whnf); first
      | refine Yz ?_
        | (apply CallI.of; assumption)
        | (refine Need.mk (by simp only [List.length_cons, List.length_nil, List.length_map]; omega) ?_)
        | (refine Bounds.at 1 (A'.length + 1) rfl rfl ⟨by omega, by simp⟩ ?_)
        | (refine LoopW.to ihn rfl ?_))
       simp [leftV, win, take_map]
   ·have iho := iho ⟨by simpa using h1, by omega, by simp [h3], h4, by simp⟩ (by omega)
    simp only [List.length_append, List.length_cons, List.length_nil, List.map_append, List.map_cons, List.map_nil] at iho
    cases tc
    ·have h5 := h5 rfl
     subst h5
     cases hwd : decide ((i : Int) % m < fo)
     ·have hwf := of_decide_eq_false hwd
      cases ta
      ·have h4 := h4 rfl
       subst h4
       repeat' ((conv => whnf); first
       | refine Yz ?_
        | (apply CallI.of; assumption)
        | (refine Need.mk (by simp only [List.length_cons, List.length_nil, List.length_map]; omega) ?_)
        | (refine Bounds.at 1 (C'.length + 1) rfl rfl ⟨by omega, by simp⟩ ?_)
        | (refine LoopW.to iho rfl ?_))
       simp [leftV, win, take_map]
      ·repeat' ((conv => whnf); first
      | refine Yz ?_
        | (apply CallI.of; assumption)
        | (refine Need.mk (by simp only [List.length_cons, List.length_nil, List.length_map]; omega) ?_)
        | (refine Bounds.at 1 (C'.length + 1) rfl rfl ⟨by omega, by simp⟩ ?_)
        | (refine LoopW.to iho rfl ?_))
       simp [leftV, win, take_map]
     ·have hwf := of_decide_eq_true hwd
      rw [hwd] at hc
      have hc : A' = [] := by simpa using hc
      subst hc
      cases ta
      ·have h4 := h4 rfl
       subst h4
       repeat' ((conv => whnf); first
       | refine Yz ?_
        | (apply CallI.of; assumption)
        | (refine Need.mk (by simp only [List.length_cons, List.length_nil, List.length_map]; omega) ?_)
        | (refine Bounds.at 1 (C'.length + 1) rfl rfl ⟨by omega, by simp⟩ ?_)
        | (refine LoopW.to iho rfl ?_))
       simp [leftV, win, take_map]
      ·repeat' ((conv => whnf); first
      | refine Yz ?_
        | (apply CallI.of; assumption)
        | (refine Need.mk (by simp only [List.length_cons, List.length_nil, List.length_map]; omega) ?_)
        | (refine Bounds.at 1 (C'.length + 1) rfl rfl ⟨by omega, by simp⟩ ?_)
        | (refine LoopW.to iho rfl ?_))
       simp [leftV, win, take_map]
    ·cases hwd : decide ((i : Int) % m < fo)
     ·have hwf := of_decide_eq_false hwd
      cases ta
      ·have h4 := h4 rfl
       subst h4
       repeat' ((conv => whnf); first
       | refine Yz ?_
        | (apply CallI.of; assumption)
        | (refine Need.mk (by simp only [List.length_cons, List.length_nil, List.length_map]; omega) ?_)
        | (refine Bounds.at 1 (C'.length + 1) rfl rfl ⟨by omega, by simp⟩ ?_)
        | (refine LoopW.to iho rfl ?_))
       simp [leftV, win, take_map]
      ·repeat' ((conv => whnf); first
      | refine Yz ?_
        | (apply CallI.of; assumption)
        | (refine Need.mk (by simp only [List.length_cons, List.length_nil, List.length_map]; omega) ?_)
        | (refine Bounds.at 1 (C'.length + 1) rfl rfl ⟨by omega, by simp⟩ ?_)
        | (refine LoopW.to iho rfl ?_))
       simp [leftV, win, take_map]
     ·have hwf := of_decide_eq_true hwd
      rw [hwd] at hc
      have hc : A' = [] := by simpa using hc
      subst hc
      cases ta
      ·have h4 := h4 rfl
       subst h4
       repeat' ((conv => whnf); first
       | refine Yz ?_
        | (apply CallI.of; assumption)
        | (refine Need.mk (by simp only [List.length_cons, List.length_nil, List.length_map]; omega) ?_)
        | (refine Bounds.at 1 (C'.length + 1) rfl rfl ⟨by omega, by simp⟩ ?_)
        | (refine LoopW.to iho rfl ?_))
       simp [leftV, win, take_map]
      ·repeat' ((conv => whnf); first
      | refine Yz ?_
        | (apply CallI.of; assumption)
        | (refine Need.mk (by simp only [List.length_cons, List.length_nil, List.length_map]; omega) ?_)
        | (refine Bounds.at 1 (C'.length + 1) rfl rfl ⟨by omega, by simp⟩ ?_)
        | (refine LoopW.to iho rfl ?_))
       simp [leftV, win, take_map]
  ·have e : l.length - i = 0 := by omega
   rw [e, shrG, List.append_nil] at h1
   subst h1
   repeat' ((conv => whnf); first
   | refine Yz ?_
    | (refine Ret.mk ?_))
   rw [if_pos ⟨rfl, rfl⟩]
end
end Go.Proofs.YtlnlcdnpgjhaaacGreatDoor.Co
/-
 Priority: CheckProgram, by the reference.
-/
namespace Go.Proofs.YtlnlcdnpgjhaaacGreatDoor.Co
open Go Go.Evl
set_option maxRecDepth 100000
end Go.Proofs.YtlnlcdnpgjhaaacGreatDoor.Co
/-
 Priority: the class of a claim, by the program and by the reference.
-/
namespace Go.Proofs.YtlnlcdnpgjhaaacGreatDoor.Co
open Go Go.Evl
set_option maxRecDepth 100000
def clsG (c : Clm) : Nat → List Cls → Int
 | i, [] => i
 | i, x :: r => if x.wh.all (holdB c) = true then i else clsG c (i + 1) r
def OkWh (p : Prg) : Prop := ∀ x ∈ p.cl, ∀ t ∈ x.wh, chkTs t = 0
theorem chkTsG_zero : ∀ {l : List Tst}, chkTsG l = 0 → ∀ t ∈ l, chkTs t = 0
 | [], _, t, ht => by cases ht
 | x :: r, h, t, ht => by
  rw [chkTsG] at h
  by_cases hz : chkTs x = 0
  ·rw [if_pos hz] at h
   rcases List.mem_cons.1 ht with rfl | ht
   ·exact hz
   ·exact chkTsG_zero h t ht
  ·rw [if_neg hz] at h
   exact absurd h hz
theorem chkKyG_zero : ∀ {l : List Kyt} {seen : List (List UInt8)}, chkKyG seen l = 0 → ∀ k ∈ l, k.fa ∈ fcL
 | [], _, _, k, hk => by cases hk
 | x :: r, seen, h, k, hk => by
  rw [chkKyG] at h
  by_cases hz : chkKy seen x = 0
  ·rw [if_pos hz] at h
   rcases List.mem_cons.1 hk with rfl | hk
   ·unfold chkKy at hz
    rw [firstI_zero] at hz
    refine Classical.byContradiction fun hn => ?_
    have := hz _ (List.mem_cons_self ..)
    rw [if_neg hn] at this
    cases this
   ·exact chkKyG_zero h k hk
  ·rw [if_neg hz] at h
   exact absurd h hz
structure OkCls (c : Cls) : Prop where
 nm : isNameB c.nm = true
 wh : c.wh.length ≤ 8
 ky : c.ky.length ≤ 8
 ts : ∀ t ∈ c.wh, chkTs t = 0
 ks : ∀ k ∈ c.ky, k.fa ∈ fcL
theorem chkCs_zero {c : Cls} (h : chkCs c = 0) : OkCls c := by
 unfold chkCs at h
 rw [firstI_zero] at h
 have h1 := h (nmE c.nm) (by simp)
 have h2 := h (if 8 < c.wh.length then 5 else 0) (by simp)
 have h3 := h (chkTsG c.wh) (by simp)
 have h4 := h (if 8 < c.ky.length then 5 else 0) (by simp)
 have h5 := h (chkKyG [] c.ky) (by simp)
 refine ⟨?_, ?_, ?_, chkTsG_zero h3, chkKyG_zero h5⟩
 ·unfold nmE at h1
  cases hb : isNameB c.nm with
  | true => rfl
  | false => rw [hb] at h1; cases h1
 ·refine Classical.byContradiction fun hn => ?_
  rw [if_pos (by omega)] at h2
  cases h2
 ·refine Classical.byContradiction fun hn => ?_
  rw [if_pos (by omega)] at h4
  cases h4
theorem chkCsG_zero : ∀ {l : List Cls} {seen : List (List UInt8)}, chkCsG seen l = 0 → ∀ c ∈ l, OkCls c
 | [], _, _, c, hc => by cases hc
 | x :: r, seen, h, c, hc => by
  rw [chkCsG] at h
  by_cases hz : chkCa seen x = 0
  ·rw [if_pos hz] at h
   rcases List.mem_cons.1 hc with rfl | hc
   ·unfold chkCa at hz
    rw [firstI_zero] at hz
    exact chkCs_zero (hz _ (List.mem_cons_self ..))
   ·exact chkCsG_zero h c hc
  ·rw [if_neg hz] at h
   exact absurd h hz
structure OkPrg (p : Prg) : Prop where
 one : 0 < p.cl.length
 many : p.cl.length ≤ 16
 cs : ∀ c ∈ p.cl, OkCls c
 po : 0 ≤ p.po ∧ p.po ≤ p.cl.length
 of' : 1 ≤ p.of ∧ p.of ≤ 100
 fo : 0 ≤ p.fo ∧ p.fo ≤ p.of
theorem chkPg_zero {p : Prg} (h : chkPg p = 0) : OkPrg p := by
 unfold chkPg at h
 rw [firstI_zero] at h
 have h1 := h (if p.cl.length = 0 then 12 else 0) (by simp)
 have h2 := h (if 16 < p.cl.length then 5 else 0) (by simp)
 have h3 := h (chkCsG [] p.cl) (by simp)
 have h4 := h (chkPool p) (by simp)
 unfold chkPool at h4
 rw [firstI_zero] at h4
 refine ⟨?_, ?_, chkCsG_zero h3, rng_zero.1 (h4 _ (by simp)), rng_zero.1 (h4 _ (by simp)), rng_zero.1 (h4 _ (by simp))⟩
 ·refine Classical.byContradiction fun hn => ?_
  rw [if_pos (by omega)] at h1
  cases h1
 ·refine Classical.byContradiction fun hn => ?_
  rw [if_pos (by omega)] at h2
  cases h2
theorem OkPrg.okWh {p : Prg} (h : OkPrg p) : OkWh p := fun x hx => (h.cs x hx).ts
theorem OkPrg.small {p : Prg} (h : OkPrg p) : SmallP p := ⟨by have := h.many; omega, fun c hc => ⟨by have := (h.cs c hc).wh; omega, by have := (h.cs c hc).ky; omega⟩⟩
section
variable {E : Oracle} (g : Good E)
include g
set_option maxHeartbeats 8000000 in
theorem s_classOf (p : Prg) (c : Clm) (hs : SmallP p) (hc : chkCl c = 0) (hp : OkWh p) : Fc E n_priority_Program_classOf [Pgv p, Clv c] (I (clsG c 0 p.cl)) := by
 refine g.fn rfl rfl ?_
 obtain ⟨l1, l2⟩ := hs
 generalize hR : clsG c 0 p.cl = R
 repeat' ((conv => whnf); first
 | refine Yz ?_)
 refine LoopW.to (LoopW.upP g (fun k => [(2, .ptr ⟨0, 2, 0⟩ 0 0), (3, .ptr ⟨0, 3, 0⟩ 0 0), (10, LC p.cl), (11, I p.cl.length), (12, I k)]) (fun _ => _) (fun k => clsG c k (p.cl.drop k) = R) p.cl.length (fun k hk h0 ih => ?_) 0 (Nat.zero_le _) hR) rfl rfl
 by_cases hlt : k < p.cl.length
 ·rw [List.drop_eq_getElem_cons hlt, clsG] at h0
  have ih := ih hlt
  have hx := hp _ (List.getElem_mem hlt)
  have l3 := (l2 _ (List.getElem_mem hlt)).1
  generalize hA : p.cl[k].wh.all (holdB c) = A at h0
  repeat' ((conv => whnf); first
  | refine Yz ?_
   | (refine PickW.rec Cls.cells_length k rfl hlt ?_))
  refine LoopW.to (LoopW.upP g (fun j => [(2, .ptr ⟨0, 2, 0⟩ 0 0), (3, .ptr ⟨0, 3, 0⟩ 0 0), (5, I k), (10, LC p.cl), (11, I p.cl.length), (12, I k), (18, LT p.cl[k].wh), (19, I p.cl[k].wh.length), (20, I j)]) (fun _ => _) (fun j => (p.cl[k].wh.drop j).all (holdB c) = A) p.cl[k].wh.length (fun j hj h1 jh => ?_) 0 (Nat.zero_le _) hA) rfl rfl
  by_cases hjl : j < p.cl[k].wh.length
  ·rw [List.drop_eq_getElem_cons hjl, List.all_cons] at h1
   have jh := jh hjl
   have hh := s_holds g c _ hc (hx _ (List.getElem_mem hjl))
   generalize holdB c p.cl[k].wh[j] = b at *
   cases b
   ·rw [Bool.false_and] at h1
    rw [← h1, if_neg (by decide)] at h0
    have ih := ih h0
    repeat' ((conv => whnf); first
    | refine Yz ?_
     | (refine PickW.rec Tst.cells_length j rfl hjl ?_)
     | (refine CallI.of hh ?_)
     | (refine LoopW.to ih rfl rfl))
   ·rw [Bool.true_and] at h1
    have jh := jh h1
    repeat' ((conv => whnf); first
    | refine Yz ?_
     | (refine PickW.rec Tst.cells_length j rfl hjl ?_)
     | (refine CallI.of hh ?_)
     | (refine LoopW.to jh rfl rfl))
  ·rw [List.drop_eq_nil_of_le (by omega), List.all_nil] at h1
   rw [← h1, if_pos rfl] at h0
   rw [← h0]
   repeat' ((conv => whnf); first
   | refine Yz ?_
    | (refine Ret.mk rfl))
 ·rw [List.drop_eq_nil_of_le (by omega), clsG] at h0
  have e : k = p.cl.length := by omega
  subst e
  rw [← h0]
  repeat' ((conv => whnf); first
  | refine Yz ?_
   | (refine Ret.mk rfl))
end
end Go.Proofs.YtlnlcdnpgjhaaacGreatDoor.Co
/-
 Priority: which of two claims comes first; the plain law.
-/
namespace Go.Proofs.YtlnlcdnpgjhaaacGreatDoor.Co
open Go Go.Evl
def dcF (f h : List UInt8 → Int) : List Kyt → Int × List UInt8
 | [] => (0, [])
 | k :: r => if f k.fa = h k.fa then dcF f h r else (if (decide (f k.fa < h k.fa) != k.dn) = true then -1 else 1, k.fa)
def dcC (c : Int → Option (List Kyt)) (i k : Int) (f h : List UInt8 → Int) : Int × List UInt8 :=
 if i < k then (-1, [99, 108, 97, 115, 115]) else if k < i then (1, [99, 108, 97, 115, 115]) else match c i with
  | some l => dcF f h l
  | none => (0, [])
def keyC (p : Prg) (i : Int) : Option (List Kyt) := (p.cl[i.toNat]?).map Cls.ky
def dcP (p : Prg) (a b : Clm) : Int × List UInt8 := dcC (keyC p) (clsG a 0 p.cl) (clsG b 0 p.cl) (factV a) (factV b)
theorem dcF_fst (f h : List UInt8 → Int) (k : Kyt) (r : List Kyt) : (dcF f h (k :: r)).1 = if f k.fa = h k.fa then (dcF f h r).1 else if f k.fa < h k.fa then (if k.dn = true then 1 else -1) else (if k.dn = true then -1 else 1) := by
 rw [dcF]
 generalize k.dn = d
 by_cases h1 : f k.fa = h k.fa
 ·rw [if_pos h1, if_pos h1]
 ·rw [if_neg h1, if_neg h1]
  by_cases h2 : f k.fa < h k.fa
  ·rw [decide_eq_true h2, if_pos h2]
   cases d <;> rfl
  ·rw [decide_eq_false h2, if_neg h2]
   cases d <;> rfl
theorem dcF_self (f : List UInt8 → Int) : ∀ l : List Kyt, dcF f f l = (0, [])
 | [] => rfl
 | k :: r => by rw [dcF, if_pos rfl, dcF_self f r]
theorem dcF_swap (f h : List UInt8 → Int) : ∀ l : List Kyt, (dcF f h l).1 = -(dcF h f l).1
 | [] => rfl
 | k :: r => by
  have := dcF_swap f h r
  rw [dcF_fst, dcF_fst]
  cases k.dn
  ·simp only [Bool.false_eq_true, if_false]
   split <;> split <;> (try split) <;> (try split) <;> omega
  ·simp only [if_true]
   split <;> split <;> (try split) <;> (try split) <;> omega
theorem dcF_trans (f h q : List UInt8 → Int) : ∀ l : List Kyt, (dcF f h l).1 ≤ 0 → (dcF h q l).1 ≤ 0 → (dcF f q l).1 ≤ 0
 | [] => fun _ _ => by simp [dcF]
 | k :: r => by
  have ih := dcF_trans f h q r
  rw [dcF_fst, dcF_fst, dcF_fst]
  generalize f k.fa = x
  generalize h k.fa = y
  generalize q k.fa = z
  generalize (dcF f h r).1 = u at *
  generalize (dcF h q r).1 = v at *
  generalize (dcF f q r).1 = w at *
  intro h1 h2
  generalize k.dn = d at *
  cases d
  ·simp only [Bool.false_eq_true, if_false] at *
   by_cases e1 : x = y
   ·by_cases e2 : y = z
    ·rw [if_pos e1] at h1
     rw [if_pos e2] at h2
     rw [if_pos (e1.trans e2)]
     exact ih h1 h2
    ·omega
   ·omega
  ·simp only [if_true] at *
   by_cases e1 : x = y
   ·by_cases e2 : y = z
    ·rw [if_pos e1] at h1
     rw [if_pos e2] at h2
     rw [if_pos (e1.trans e2)]
     exact ih h1 h2
    ·omega
   ·omega
theorem dcC_fst (c : Int → Option (List Kyt)) (i k : Int) (f h : List UInt8 → Int) : (dcC c i k f h).1 = if i < k then -1 else if k < i then 1 else (dcF f h ((c i).getD [])).1 := by
 unfold dcC
 split
 ·rfl
 ·split
  ·rfl
  ·cases c i <;> rfl
theorem dcC_self (c : Int → Option (List Kyt)) (i : Int) (f : List UInt8 → Int) : dcC c i i f f = (0, []) := by
 unfold dcC
 rw [if_neg (by omega), if_neg (by omega)]
 cases c i with
 | none => rfl
 | some l => exact dcF_self f l
theorem dcC_swap (c : Int → Option (List Kyt)) (i k : Int) (f h : List UInt8 → Int) : (dcC c i k f h).1 = -(dcC c k i h f).1 := by
 rw [dcC_fst, dcC_fst]
 rcases Int.lt_trichotomy i k with e | e | e
 ·rw [if_pos e, if_neg (by omega), if_pos e]
 ·subst e
  rw [if_neg (Int.lt_irrefl i), if_neg (Int.lt_irrefl i), if_neg (Int.lt_irrefl i), if_neg (Int.lt_irrefl i)]
  exact dcF_swap f h _
 ·rw [if_neg (by omega), if_pos e, if_pos e]
  rfl
theorem dcC_trans (c : Int → Option (List Kyt)) (i k j : Int) (f h q : List UInt8 → Int) (h1 : (dcC c i k f h).1 ≤ 0) (h2 : (dcC c k j h q).1 ≤ 0) : (dcC c i j f q).1 ≤ 0 := by
 rw [dcC_fst] at *
 rcases Int.lt_trichotomy i k with e1 | e1 | e1
 ·rcases Int.lt_trichotomy k j with e2 | e2 | e2
  ·rw [if_pos (by omega)]; decide
  ·rw [if_pos (by omega)]; decide
  ·rw [if_neg (by omega), if_pos e2] at h2
   exact absurd h2 (by decide)
 ·subst e1
  rcases Int.lt_trichotomy i j with e2 | e2 | e2
  ·rw [if_pos (by omega)]; decide
  ·subst e2
   rw [if_neg (by omega), if_neg (by omega)] at *
   exact dcF_trans f h q _ h1 h2
  ·rw [if_neg (by omega), if_pos e2] at h2
   exact absurd h2 (by decide)
 ·rw [if_neg (by omega), if_pos e1] at h1
  exact absurd h1 (by decide)
theorem dcC_same (c : Int → Option (List Kyt)) (i : Int) (f h : List UInt8 → Int) : dcC c i i f h = dcF f h ((c i).getD []) := by
 unfold dcC
 rw [if_neg (Int.lt_irrefl i), if_neg (Int.lt_irrefl i)]
 cases c i <;> rfl
theorem dcC_lt (c : Int → Option (List Kyt)) {i k : Int} (f h : List UInt8 → Int) (e : i < k) : dcC c i k f h = (-1, [99, 108, 97, 115, 115]) := if_pos e
theorem dcC_gt (c : Int → Option (List Kyt)) {i k : Int} (f h : List UInt8 → Int) (e : k < i) : dcC c i k f h = (1, [99, 108, 97, 115, 115]) := by
 unfold dcC
 rw [if_neg (by omega), if_pos e]
theorem keyC_in {p : Prg} {n : Nat} (h : n < p.cl.length) : (keyC p (n : Int)).getD [] = p.cl[n].ky := by
 unfold keyC
 rw [Int.toNat_natCast, List.getElem?_eq_getElem h]
 rfl
theorem keyC_out {p : Prg} {n : Nat} (h : p.cl.length ≤ n) : (keyC p (n : Int)).getD [] = [] := by
 unfold keyC
 rw [Int.toNat_natCast, List.getElem?_eq_none h]
 rfl
theorem dcP_self (p : Prg) (a : Clm) : dcP p a a = (0, []) := dcC_self _ _ _
theorem dcP_swap (p : Prg) (a b : Clm) : (dcP p a b).1 = -(dcP p b a).1 := dcC_swap _ _ _ _ _
theorem dcP_trans (p : Prg) (a b c : Clm) (h1 : (dcP p a b).1 ≤ 0) (h2 : (dcP p b c).1 ≤ 0) : (dcP p a c).1 ≤ 0 := dcC_trans _ _ _ _ _ _ _ h1 h2
end Go.Proofs.YtlnlcdnpgjhaaacGreatDoor.Co
/-
 Priority: which of two claims comes first, by the program and by the reference.
-/
namespace Go.Proofs.YtlnlcdnpgjhaaacGreatDoor.Co
open Go Go.Evl
set_option maxRecDepth 100000
theorem clsG_ge (c : Clm) : ∀ (i : Nat) (l : List Cls), (i : Int) ≤ clsG c i l ∧ clsG c i l ≤ i + l.length
 | i, [] => by simp [clsG]
 | i, x :: r => by
  have := clsG_ge c (i + 1) r
  rw [clsG, List.length_cons]
  split
  ·omega
  ·omega
def keyM (lv slot : Nat) (p : Prg) (i : Int) : Mem := [(⟨lv, slot, 0⟩, .cells ty_int [I i]), (⟨lv, slot, 1⟩, .cells ty_priority_Program [LC p.cl, I p.po, I p.of, I p.fo])]
def OkKy (p : Prg) : Prop := ∀ c ∈ p.cl, ∀ k ∈ c.ky, k.fa ∈ fcL
section
variable {E : Oracle} (g : Good E)
include g
theorem s_keys (p : Prg) (i : Int) : In E 0 n_priority_Program_keys [Pgv p, I i] [] fun v m' => v = .fn n_priority_Program_keys_1 [] [.ptr ⟨0, 3, 0⟩ 0 0, .ptr ⟨0, 2, 0⟩ 0 0] ∧ m' = [(⟨0, 2, 0⟩, .cells ty_priority_Program [LC p.cl, I p.po, I p.of, I p.fo]), (⟨0, 3, 0⟩, .cells ty_int [I i])] := by
 refine In.enter (f := n_priority_Program_keys) g.lim rfl rfl ?_
 repeat' ((conv => whnf); first
 | refine Yz ?_
  | (exact ⟨rfl, rfl⟩))
theorem CallS.keys {p : Prg} {i : Int} {cx : Cx} {slot : Nat} {m : Mem} {K : V → Mem → Prop} (hf : Go.Evl.freeK cx.lv slot m = 0) (h : K (.fn n_priority_Program_keys_1 [] [.ptr ⟨cx.lv, slot, 0⟩ 0 0, .ptr ⟨cx.lv, slot, 1⟩ 0 0]) (m ++ keyM cx.lv slot p i)) : CallS E n_priority_Program_keys [Pgv p, I i] cx slot m K := by
 obtain ⟨v, m', h1, rfl, rfl⟩ := (s_keys g p i).got
 refine ⟨_, _, (.fn n_priority_Program_keys_1 [] [.ptr ⟨cx.lv, slot, 0⟩ 0 0, .ptr ⟨cx.lv, slot, 1⟩ 0 0], m ++ keyM cx.lv slot p i), h1, ?_, h⟩
 unfold Go.Evl.settle
 rw [hf]
 rfl
theorem fact_two (a b : Clm) (s : List UInt8) (h : s ∈ fcL) (ha : chkCl a = 0) (hb : chkCl b = 0) : ∃ n, findE (.str s) facM = some (some (.d (.agg [.str s, .fn n]))) ∧ Fc E n [Clv a] (I (factV a s)) ∧ Fc E n [Clv b] (I (factV b s)) := by
 obtain ⟨n, f1, c1⟩ := fact_find g a s h ha
 obtain ⟨k, f2, c2⟩ := fact_find g b s h hb
 have : n = k := by
  rw [f1] at f2
  simpa using f2
 subst this
 exact ⟨n, f1, c1, c2⟩
set_option maxHeartbeats 32000000 in
theorem s_decide (p : Prg) (a b : Clm) (hs : SmallP p) (ha : chkCl a = 0) (hb : chkCl b = 0) (hp : OkWh p) (hk : OkKy p) : Fc E n_priority_Program_decide [Pgv p, Clv a, Clv b] (.tup [I (dcP p a b).1, S (dcP p a b).2]) := by
 refine g.fn rfl rfl ?_
 have h1 := s_classOf g p a hs ha hp
 have h2 := s_classOf g p b hs hb hp
 have b0 : Fc E n_priority_bit [B false] (I 0) := s_pbit g false
 have b1 : Fc E n_priority_bit [B true] (I 1) := s_pbit g true
 have r1 := clsG_ge a 0 p.cl
 have r2 := clsG_ge b 0 p.cl
 have l1 := hs.1
 unfold dcP
 generalize clsG a 0 p.cl = i at *
 generalize clsG b 0 p.cl = k at *
 rcases Int.lt_trichotomy i k with e | e | e
 ·rw [dcC_lt _ _ _ e]
  repeat' ((conv => whnf); first
  | refine Yz ?_
   | (apply CallI.of; assumption)
   | (refine Ret.mk rfl))
 ·subst e
  by_cases he : a = b
  ·subst he
   rw [dcC_self]
   repeat' ((conv => whnf); first
   | refine Yz ?_
    | (apply CallI.of; assumption)
    | (refine Cmp.tt (by simp) ?_)
    | (refine Ret.mk rfl))
  ·obtain ⟨n, rfl⟩ : ∃ n : Nat, i = n := ⟨i.toNat, by omega⟩
   rw [dcC_same]
   have two : ∀ s ∈ fcL, ∃ n, findE (.str s) facM = some (some (.d (.agg [.str s, .fn n]))) ∧ Fc E n [Clv a] (I (factV a s)) ∧ Fc E n [Clv b] (I (factV b s)) := fun s h => fact_two g a b s h ha hb
   generalize factV a = fa at *
   generalize factV b = fb at *
   by_cases hn : n < p.cl.length
   ·have l2 := (hs.2 _ (List.getElem_mem hn)).2
    have hkk := hk _ (List.getElem_mem hn)
    rw [keyC_in hn]
    generalize hR : dcF fa fb p.cl[n].ky = R
    repeat' ((conv => whnf); first
    | refine Yz ?_
     | (apply CallI.of; assumption)
     | (refine CallS.keys g rfl ?_)
     | (refine In.enter (f := n_priority_Program_keys_1) g.lim rfl rfl ?_)
     | (refine Cmp.mk (fun h => ?_) (fun h => ?_))
     | (refine Pick.rec Cls.cells_length n rfl hn rfl ?_))
    ·refine absurd ?_ he
     clear h1 h2 two hR he ha hb r1 r2
     obtain ⟨⟨n1, c1, k1, t1, p1, l1, f1, o1, d1, m1, s1, z1, i1⟩, h1, r1, w1, y1, x1⟩ := a
     obtain ⟨⟨n2, c2, k2, t2, p2, l2, f2, o2, d2, m2, s2, z2, i2⟩, h2, r2, w2, y2, x2⟩ := b
     simp_all
    all_goals
     refine LoopW.to (LoopW.upP g (fun k => [(0, .yld ⟨0, 67, 0⟩), (16, LK p.cl[n].ky), (17, I p.cl[n].ky.length), (18, I k)]) (fun _ => _) (fun k => dcF fa fb (p.cl[n].ky.drop k) = R) p.cl[n].ky.length (fun k hk h0 ih => ?_) 0 (Nat.zero_le _) hR) rfl rfl
     by_cases hlt : k < p.cl[n].ky.length
     ·rw [List.drop_eq_getElem_cons hlt, dcF] at h0
      have ih := ih hlt
      obtain ⟨m, m1, m2, m3⟩ := two _ (hkk _ (List.getElem_mem hlt))
      generalize hx : p.cl[n].ky[k] = x at *
      obtain ⟨f, dn⟩ := x
      dsimp only at h0 m1 m2 m3
      generalize fa f = u at *
      generalize fb f = v at *
      rcases Int.lt_trichotomy u v with e | e | e
      ·rw [if_neg (by omega), decide_eq_true e] at h0
       rw [← h0]
       cases dn
       all_goals repeat' ((conv => whnf); first
       | refine Yz ?_
        | (refine PickW.rec Kyt.cells_length k rfl hlt ?_; rw [hx])
        | (refine CallS.known g rfl ?_)
        | (refine Find.mk ⟨_, m1, ?_⟩)
        | (refine Rnd.enter g.lim ?_)
        | (apply CallI.of; assumption)
        | (refine Ret.mk rfl))
      ·rw [if_pos e] at h0
       have ih := ih h0
       repeat' ((conv => whnf); first
       | refine Yz ?_
        | (refine PickW.rec Kyt.cells_length k rfl hlt ?_; rw [hx])
        | (refine CallS.known g rfl ?_)
        | (refine Find.mk ⟨_, m1, ?_⟩)
        | (refine Rnd.enter g.lim ?_)
        | (apply CallI.of; assumption)
        | (refine LoopW.to ih rfl rfl))
      ·rw [if_neg (by omega), decide_eq_false (by omega)] at h0
       rw [← h0]
       cases dn
       all_goals repeat' ((conv => whnf); first
       | refine Yz ?_
        | (refine PickW.rec Kyt.cells_length k rfl hlt ?_; rw [hx])
        | (refine CallS.known g rfl ?_)
        | (refine Find.mk ⟨_, m1, ?_⟩)
        | (refine Rnd.enter g.lim ?_)
        | (apply CallI.of; assumption)
        | (refine Ret.mk rfl))
     ·rw [List.drop_eq_nil_of_le (by omega), dcF] at h0
      rw [← h0]
      repeat' ((conv => whnf); first
      | refine Yz ?_
       | (refine Ret.mk rfl))
   ·have hn' : n = p.cl.length := by omega
    rw [keyC_out (by omega), dcF]
    repeat' ((conv => whnf); first
    | refine Yz ?_
     | (apply CallI.of; assumption)
     | (refine CallS.keys g rfl ?_)
     | (refine In.enter (f := n_priority_Program_keys_1) g.lim rfl rfl ?_)
     | (refine Cmp.mk (fun h => ?_) (fun h => ?_))
     | (refine Ret.mk rfl))
 ·rw [dcC_gt _ _ _ e]
  repeat' ((conv => whnf); first
  | refine Yz ?_
   | (apply CallI.of; assumption)
   | (refine Ret.mk rfl))
end
end Go.Proofs.YtlnlcdnpgjhaaacGreatDoor.Co
/-
 Priority: Compare, by the program.
-/
namespace Go.Proofs.YtlnlcdnpgjhaaacGreatDoor.Co
open Go Go.Evl
set_option maxRecDepth 100000
theorem OkPrg.okKy {p : Prg} (h : OkPrg p) : OkKy p := fun c hc k hk => (h.cs c hc).ks k hk
end Go.Proofs.YtlnlcdnpgjhaaacGreatDoor.Co
/-
 Priority: the order of claims, in plain Lean.
-/
namespace Go.Proofs.YtlnlcdnpgjhaaacGreatDoor.Co
open Go Go.Evl
set_option maxRecDepth 100000
def zClm : Clm := ⟨⟨[], [], [], [], [], [], 0, 0, 0, 0, 0, 0, 0⟩, false, false, false, false, 0⟩
def atC (l : List Clm) (i : Int) : Clm := (l[i.toNat]?).getD zClm
theorem atC_get {l : List Clm} {i : Int} (h : i.toNat < l.length) : atC l i = l[i.toNat] := by
 unfold atC
 rw [List.getElem?_eq_getElem h]
 rfl
theorem atC_mem {l : List Clm} {i : Int} (h : i ∈ idL l.length) : atC l i ∈ l := by
 have := idL_mem.1 h
 rw [atC_get (by omega)]
 exact List.getElem_mem _
def ltB (p : Prg) (l : List Clm) (w : List Int) (a b : Int) : Bool := decide ((dcP p (atC l a) (atC l b)).1 < 0) || (decide ((dcP p (atC l a) (atC l b)).1 = 0) && decide (w.getD a.toNat 0 < w.getD b.toNat 0))
theorem ltB_iff {p : Prg} {l : List Clm} {w : List Int} {a b : Int} : ltB p l w a b = true ↔ (dcP p (atC l a) (atC l b)).1 < 0 ∨ ((dcP p (atC l a) (atC l b)).1 = 0 ∧ w.getD a.toNat 0 < w.getD b.toNat 0) := by
 simp [ltB]
theorem countP_lt {α : Type} {p q : α → Bool} : ∀ {l : List α}, (∀ x ∈ l, p x = true → q x = true) → ∀ a ∈ l, q a = true → p a = false → l.countP p < l.countP q
 | [], _, a, h, _, _ => by cases h
 | x :: r, hs, a, ha, hq, hp => by
  have hle : r.countP p ≤ r.countP q := List.countP_mono_left fun y hy => hs y (List.mem_cons_of_mem _ hy)
  rw [List.countP_cons, List.countP_cons]
  rcases List.mem_cons.1 ha with rfl | ha
  ·rw [hq, hp]
   simp
   omega
  ·have ih := countP_lt (fun y hy => hs y (List.mem_cons_of_mem _ hy)) a ha hq hp
   have h0 := hs x (List.mem_cons_self ..)
   cases hx : p x
   ·simp; omega
   ·rw [h0 hx]; simp; omega
theorem place_lt {n : Nat} {lt : Int → Int → Bool} (t : Tot n lt) {a b : Int} (ha : a ∈ idL n) (hb : b ∈ idL n) (h : lt a b = true) : placeL n lt a < placeL n lt b :=
 countP_lt (fun x hx hxa => t.tr x a b hx ha hb hxa h) a ha h (t.irr a)
theorem place_inj {n : Nat} {lt : Int → Int → Bool} (t : Tot n lt) {a b : Int} (ha : a ∈ idL n) (hb : b ∈ idL n) (h : placeL n lt a = placeL n lt b) : a = b := by
 refine Classical.byContradiction fun hab => ?_
 cases hl : lt a b
 ·have := place_lt t hb ha (t.tot a b ha hb hab hl)
  omega
 ·have := place_lt t ha hb hl
  omega
theorem place_in {n : Nat} {lt : Int → Int → Bool} (t : Tot n lt) {a : Int} (ha : a ∈ idL n) : placeL n lt a < n := by
 have := countP_lt (p := fun y => lt y a) (q := fun _ => true) (l := idL n) (fun _ _ _ => rfl) a ha rfl (t.irr a)
 rw [List.countP_true, idL_length] at this
 exact this
theorem drawAll_ord (key : Int) (n : Nat) : Ord n (drawAll key n) := by
 rcases Nat.eq_zero_or_pos n with rfl | hp
 ·exact Ord.id 0
 ·exact Ord.draw _ _ _ (by omega) (Ord.id n)
theorem lotL_inj {key : Int} {l : List Clm} (hn : (nmsM l).Nodup) {a b : Int} (ha : a ∈ idL l.length) (hb : b ∈ idL l.length) (h : (lotL key l).getD a.toNat 0 = (lotL key l).getD b.toNat 0) : a = b := by
 have t := ltN_tot hn
 have h1 := idL_mem.1 ha
 have h2 := idL_mem.1 hb
 have e : ∀ x : Int, x ∈ idL l.length → (lotL key l).getD x.toNat 0 = (drawAll key l.length).getD (placeL l.length (ltN l) x) 0 := fun x hx => by
  have h3 := idL_mem.1 hx
  have h4 : x.toNat < l.length := by omega
  have h5 : ((x.toNat : Nat) : Int) = x := by omega
  simp [lotL, idL, List.getD, h4, h5]
 rw [e a ha, e b hb] at h
 exact place_inj t ha hb ((drawAll_ord key l.length).inj _ _ (place_in t ha) (place_in t hb) h)
theorem ltB_tot {p : Prg} {key : Int} {l : List Clm} (hn : (nmsM l).Nodup) : Tot l.length (ltB p l (lotL key l)) := by
 refine ⟨fun a => ?_, fun a b c _ _ _ h1 h2 => ?_, fun a b ha hb hab h => ?_⟩
 ·cases h : ltB p l (lotL key l) a a with
  | false => rfl
  | true =>
   rw [ltB_iff, dcP_self] at h
   simp at h
 ·rw [ltB_iff] at h1 h2 ⊢
  have t1 := dcP_trans p (atC l a) (atC l b) (atC l c)
  have t2 := dcP_trans p (atC l b) (atC l c) (atC l a)
  have t3 := dcP_trans p (atC l c) (atC l a) (atC l b)
  have s1 := dcP_swap p (atC l a) (atC l b)
  have s2 := dcP_swap p (atC l b) (atC l c)
  have s3 := dcP_swap p (atC l c) (atC l a)
  generalize (dcP p (atC l a) (atC l b)).1 = x1 at *
  generalize (dcP p (atC l b) (atC l c)).1 = x2 at *
  generalize (dcP p (atC l a) (atC l c)).1 = x3 at *
  generalize (dcP p (atC l b) (atC l a)).1 = y1 at *
  generalize (dcP p (atC l c) (atC l b)).1 = y2 at *
  generalize (dcP p (atC l c) (atC l a)).1 = y3 at *
  have := t1 (by omega) (by omega)
  by_cases h3 : x3 < 0
  ·exact .inl h3
  ·have e3 : x3 = 0 := by omega
   have := t2 (by omega) (by omega)
   have := t3 (by omega) (by omega)
   exact .inr ⟨e3, by omega⟩
 ·have hx : ¬ ((dcP p (atC l a) (atC l b)).1 < 0 ∨ ((dcP p (atC l a) (atC l b)).1 = 0 ∧ (lotL key l).getD a.toNat 0 < (lotL key l).getD b.toNat 0)) := fun hc => by
   rw [ltB_iff.2 hc] at h
   cases h
  rw [ltB_iff]
  have s1 := dcP_swap p (atC l a) (atC l b)
  have hl : (lotL key l).getD a.toNat 0 ≠ (lotL key l).getD b.toNat 0 := fun e => hab (lotL_inj hn ha hb e)
  omega
theorem ins_ex {n : Nat} {lt : Int → Int → Bool} (t : Tot n lt) {x : Int} (hx : x ∈ idL n) : ∀ s : List Int, s.Pairwise (fun a b => lt a b = true) → (∀ y ∈ s, y ∈ idL n) → x ∉ s → ∃ s' : List Int, s'.Perm (x :: s) ∧ s'.Pairwise (fun a b => lt a b = true)
 | [], _, _, _ => ⟨[x], .refl _, List.pairwise_singleton ..⟩
 | y :: r, hs, hm, hn => by
  have hp := List.pairwise_cons.1 hs
  have hy := hm y (List.mem_cons_self ..)
  cases h : lt x y
  ·have hyx := t.tot x y hx hy (fun e => hn (by simp [e])) h
   obtain ⟨s', h1, h2⟩ := ins_ex t hx r hp.2 (fun z hz => hm z (List.mem_cons_of_mem _ hz)) (fun hc => hn (List.mem_cons_of_mem _ hc))
   refine ⟨y :: s', (h1.cons y).trans (List.Perm.swap ..), List.pairwise_cons.2 ⟨fun z hz => ?_, h2⟩⟩
   rcases List.mem_cons.1 (h1.mem_iff.1 hz) with rfl | hz
   ·exact hyx
   ·exact hp.1 z hz
  ·refine ⟨x :: y :: r, .refl _, List.pairwise_cons.2 ⟨fun z hz => ?_, hs⟩⟩
   rcases List.mem_cons.1 hz with rfl | hz
   ·exact h
   ·exact t.tr x y z hx hy (hm z (List.mem_cons_of_mem _ hz)) h (hp.1 z hz)
theorem srt_ex' {n : Nat} {lt : Int → Int → Bool} (t : Tot n lt) : ∀ l : List Int, l.Nodup → (∀ y ∈ l, y ∈ idL n) → ∃ s : List Int, s.Perm l ∧ s.Pairwise (fun a b => lt a b = true)
 | [], _, _ => ⟨[], .refl _, List.Pairwise.nil⟩
 | x :: r, hn, hm => by
  have hc := List.nodup_cons.1 hn
  obtain ⟨s, h1, h2⟩ := srt_ex' t r hc.2 fun y hy => hm y (List.mem_cons_of_mem _ hy)
  obtain ⟨s', h3, h4⟩ := ins_ex t (hm x (List.mem_cons_self ..)) s h2 (fun y hy => hm y (List.mem_cons_of_mem _ (h1.mem_iff.1 hy))) (fun hx => hc.1 (h1.mem_iff.1 hx))
  exact ⟨s', h3.trans (h1.cons x), h4⟩
theorem idL_nodup (n : Nat) : (idL n).Nodup := by
 refine List.pairwise_iff_getElem.2 fun a b ha hb hab => ?_
 simp only [idL, List.getElem_map, List.getElem_range]
 omega
theorem srt_ex {n : Nat} {lt : Int → Int → Bool} (t : Tot n lt) : ∃ s, Srt n lt s := by
 obtain ⟨s, h1, h2⟩ := srt_ex' t (idL n) (idL_nodup n) fun _ h => h
 exact ⟨s, h1, h2⟩
theorem Srt.same {n : Nat} {lt : Int → Int → Bool} {s r : List Int} (t : Tot n lt) (hs : Srt n lt s) (hr : Srt n lt r) : r = s := by
 refine List.ext_getElem (by rw [hs.len, hr.len]) fun i h1 h2 => ?_
 have hu := hs.uniq t (hr.mem h1)
 rw [hr.place t h1, List.getElem?_eq_getElem h2] at hu
 exact (Option.some.inj hu).symm
def clA (p : Prg) (l : List Clm) (i : Int) : Int := clsG (atC l i) 0 p.cl
def poolA (p : Prg) (l : List Clm) (s : List Int) : Nat := s.findIdx fun i => decide (p.po ≤ clA p l i)
def rankL (p : Prg) (l : List Clm) (s : List Int) : List Int :=
 s.take (poolA p l s) ++ (shrL p.of p.fo ((s.drop (poolA p l s)).map fun i => (atC l i).ne)).map fun j => (s.drop (poolA p l s)).getD j.toNat 0
theorem poolA_le (p : Prg) (l : List Clm) (s : List Int) : poolA p l s ≤ s.length := List.findIdx_le_length
theorem rankL_length (p : Prg) (l : List Clm) (s : List Int) : (rankL p l s).length = s.length := by
 have := poolA_le p l s
 unfold rankL
 rw [List.length_append, List.length_take, List.length_map, shrL_length, List.length_map, List.length_drop]
 omega
theorem pool_before {p : Prg} {l : List Clm} {s : List Int} {i : Nat} (h : i < poolA p l s) : clA p l (s[i]'(Nat.lt_of_lt_of_le h (poolA_le p l s))) < p.po := by
 have := List.not_of_lt_findIdx h
 simpa using this
theorem rankL_in {p : Prg} {l : List Clm} {s : List Int} {x : Int} (h : x ∈ rankL p l s) : x ∈ s := by
 unfold rankL at h
 rcases List.mem_append.1 h with h | h
 ·exact List.mem_of_mem_take h
 ·obtain ⟨j, hj, rfl⟩ := List.mem_map.1 h
  have hp : (shrL p.of p.fo ((s.drop (poolA p l s)).map fun i => (atC l i).ne)).Perm _ := shrG_perm p.of p.fo _ _ _ _ (selG_length 0 _)
  have hlt : j.toNat < (s.drop (poolA p l s)).length := by
   rcases List.mem_append.1 (hp.mem_iff.1 hj) with h | h
   all_goals
    obtain ⟨i, h1, h2⟩ := selG_mem h
    have := (List.getElem?_eq_some_iff.1 h2).1
    rw [List.length_map] at this
    omega
  rw [List.getD, List.getElem?_eq_getElem hlt]
  exact List.mem_of_mem_drop (List.getElem_mem hlt)
end Go.Proofs.YtlnlcdnpgjhaaacGreatDoor.Co
/-
 Priority: the order of claims, by the program.
-/
namespace Go.Proofs.YtlnlcdnpgjhaaacGreatDoor.Co
open Go Go.Evl
set_option maxRecDepth 100000
abbrev Rkv (p : Prg) (l : List Clm) (w : List Int) : V := .d (.agg [.list p.cl.length (p.cl.flatMap Cls.cells), DI p.po, DI p.of, DI p.fo, .list l.length (l.flatMap Clm.cells), .list w.length (w.map DI)])
def cmpL (p : Prg) (l : List Clm) (w : List Int) (a b : Int) : Int × List UInt8 := if (dcP p (atC l a) (atC l b)).1 = 0 then (cmpI (w.getD a.toNat 0) (w.getD b.toNat 0), [108, 111, 116]) else dcP p (atC l a) (atC l b)
theorem cmpI_lt (a b : Int) : cmpI a b < 0 ↔ a < b := by
 unfold cmpI
 split
 ·simp [*]
 ·split <;> simp [*]
theorem cmpL_lt (p : Prg) (l : List Clm) (w : List Int) (a b : Int) : (cmpL p l w a b).1 < 0 ↔ ltB p l w a b = true := by
 rw [ltB_iff]
 unfold cmpL
 split
 ·rename_i h
  rw [h]
  dsimp only
  rw [cmpI_lt]
  simp
 ·rename_i h
  simp [h]
structure OkRk (p : Prg) (l : List Clm) (w : List Int) : Prop where
 sm : SmallP p
 wh : OkWh p
 ky : OkKy p
 cl : ∀ c ∈ l, chkCl c = 0
 n : l.length ≤ 12
 w : w.length = l.length
 of' : 1 ≤ p.of ∧ p.of ≤ 100
theorem idx_nat {n : Nat} {x : Int} (h : x ∈ idL n) : ∃ k : Nat, x = k ∧ k < n := by
 have := idL_mem.1 h
 exact ⟨x.toNat, by omega, by omega⟩
section
variable {E : Oracle} (g : Good E)
include g
set_option maxHeartbeats 8000000 in
theorem s_compare {p : Prg} {l : List Clm} {w : List Int} (ok : OkRk p l w) {a b : Int} (ha : a ∈ idL l.length) (hb : b ∈ idL l.length) : Fc E n_priority_ranking_compare [Rkv p l w, I a, I b] (.tup [I (cmpL p l w a b).1, S (cmpL p l w a b).2]) := by
 have d := s_decide g p (atC l a) (atC l b) ok.sm (ok.cl _ (atC_mem ha)) (ok.cl _ (atC_mem hb)) ok.wh ok.ky
 obtain ⟨i, rfl, hi⟩ := idx_nat ha
 obtain ⟨k, rfl, hk⟩ := idx_nat hb
 have hw := ok.w
 have ea : atC l (i : Int) = l[i] := atC_get (i := (i : Int)) (by omega)
 have eb : atC l (k : Int) = l[k] := atC_get (i := (k : Int)) (by omega)
 have hiw : i < w.length := by omega
 have hkw : k < w.length := by omega
 have c := s_CmpI g w[i] w[k]
 unfold cmpL
 rw [ea, eb] at d ⊢
 refine g.fn rfl rfl ?_
 by_cases h0 : (dcP p l[i] l[k]).1 = 0
 ·rw [if_pos h0]
  rw [h0] at d
  have e1 : w.getD ((i : Int)).toNat 0 = w[i] := by simp [List.getD, hiw]
  have e2 : w.getD ((k : Int)).toNat 0 = w[k] := by simp [List.getD, hkw]
  rw [e1, e2]
  repeat' ((conv => whnf); first
  | refine Yz ?_
   | (refine PickW.rec Clm.cells_length i rfl hi ?_)
   | (refine PickW.rec Clm.cells_length k rfl hk ?_)
   | (refine Pick.intI i rfl hiw ?_)
   | (refine Pick.intI k rfl hkw ?_)
   | (apply CallI.of; assumption)
   | (refine Ret.mk rfl))
 ·rw [if_neg h0]
  generalize dcP p l[i] l[k] = z at *
  repeat' ((conv => whnf); first
  | refine Yz ?_
   | (refine PickW.rec Clm.cells_length i rfl hi ?_)
   | (refine PickW.rec Clm.cells_length k rfl hk ?_)
   | (apply CallI.of; assumption)
   | (refine Cmp.ff h0 ?_)
   | (refine Ret.mk rfl))
abbrev ordM (p : Prg) (l : List Clm) (w : List Int) (s : List Int) : Mem := [(⟨0, 1, 0⟩, .cells ty_priority_ranking [LC p.cl, I p.po, I p.of, I p.fo, LM l, LI w]), (⟨0, 2, 0⟩, .row true ty_int 1 0 []), (⟨0, 14, 0⟩, .row true ty_int 1 l.length (s.map DI))]
theorem in_order1 {p : Prg} {l : List Clm} {w : List Int} (ok : OkRk p l w) (x y : Int) (s : List Int) {K : V → Mem → Prop} (hx : x ∈ idL l.length) (hy : y ∈ idL l.length) (hK : ∀ c : Int, (c < 0 ↔ ltB p l w x y = true) → K (I c) (ordM p l w s)) :
  In E 4 n_priority_ranking_order_1 [I x, I y, .ptr ⟨0, 1, 0⟩ 0 0] (ordM p l w s) K := by
 have hc := s_compare g ok hx hy
 have hk := hK _ (cmpL_lt p l w x y)
 generalize cmpL p l w x y = z at *
 refine In.enter (f := n_priority_ranking_order_1) g.lim rfl rfl ?_
 repeat' ((conv => whnf); first
 | refine Yz ?_
  | (apply CallI.of; assumption)
  | (exact hk))
theorem in_order2 {p : Prg} {l : List Clm} {w : List Int} (ok : OkRk p l w) (x : Int) (s : List Int) {K : V → Mem → Prop} (hx : x ∈ idL l.length) (hK : K (B (decide (p.po ≤ clA p l x))) (ordM p l w s)) :
  In E 2 n_priority_ranking_order_2 [I x, .ptr ⟨0, 1, 0⟩ 0 0] (ordM p l w s) K := by
 have hc := s_classOf g p (atC l x) ok.sm (ok.cl _ (atC_mem hx)) ok.wh
 obtain ⟨i, rfl, hi⟩ := idx_nat hx
 have ea : atC l (i : Int) = l[i] := atC_get (i := (i : Int)) (by omega)
 unfold clA at hK
 rw [ea] at hc hK
 have l1 := ok.n
 generalize clsG l[i] 0 p.cl = z at *
 refine In.enter (f := n_priority_ranking_order_2) g.lim rfl rfl ?_
 by_cases h : p.po ≤ z
 ·rw [decide_eq_true h] at hK
  repeat' ((conv => whnf); first
  | refine Yz ?_
   | (refine PickW.rec Clm.cells_length i rfl hi ?_)
   | (apply CallI.of; assumption)
   | (exact hK))
 ·rw [decide_eq_false h] at hK
  repeat' ((conv => whnf); first
  | refine Yz ?_
   | (refine PickW.rec Clm.cells_length i rfl hi ?_)
   | (apply CallI.of; assumption)
   | (exact hK))
theorem in_index {p : Prg} {l : List Clm} {w : List Int} (ok : OkRk p l w) (s : List Int) {K : V → Mem → Prop} (hs : s.length = l.length) (hm : ∀ x ∈ s, x ∈ idL l.length) (hK : K (I (if poolA p l s < s.length then (poolA p l s : Int) else -1)) (ordM p l w s)) :
  In E 1 n_slices_IndexFunc_Lint_int [.ref ⟨0, 14, 0⟩ 0 l.length l.length, .fn n_priority_ranking_order_2 [] [.ptr ⟨0, 1, 0⟩ 0 0]] (ordM p l w s) K := by
 have l1 := ok.n
 refine In.enter (f := n_slices_IndexFunc_Lint_int) g.lim rfl rfl ?_
 repeat' ((conv => whnf); first
 | refine Yz ?_)
 refine LoopW.to (LoopW.upP g (fun k => [(0, .ref ⟨0, 14, 0⟩ 0 l.length l.length), (1, .fn n_priority_ranking_order_2 [] [.ptr ⟨0, 1, 0⟩ 0 0]), (7, I l.length), (8, I k)]) (fun _ => ordM p l w s) (fun k => k ≤ poolA p l s) l.length (fun k hk hp ih => ?_) 0 (Nat.zero_le _) (Nat.zero_le _)) rfl rfl
 by_cases hlt : k < l.length
 ·have hks : k < s.length := by omega
  have hx := hm _ (List.getElem_mem hks)
  have hin := fun {K} => in_order2 g ok s[k] s (K := K) hx
  by_cases h : p.po ≤ clA p l s[k]
  ·have he : poolA p l s = k := by
    refine Nat.le_antisymm ?_ hp
    refine Nat.le_of_not_lt fun hc => ?_
    have := pool_before hc
    omega
   rw [decide_eq_true h] at hin
   rw [he, if_pos hks] at hK
   repeat' ((conv => whnf); first
   | refine Yz ?_
    | (refine Pick.intI0 k rfl hks ?_)
    | (refine hin ?_)
    | (exact hK))
  ·have hp' : k + 1 ≤ poolA p l s := by
    refine Nat.lt_of_le_of_ne hp fun e => h ?_
    subst e
    have hw : poolA p l s < s.length := hks
    have := List.findIdx_getElem (xs := s) (p := fun i => decide (p.po ≤ clA p l i)) (w := hw)
    exact of_decide_eq_true this
   have ih := ih hlt hp'
   rw [decide_eq_false h] at hin
   repeat' ((conv => whnf); first
   | refine Yz ?_
    | (refine Pick.intI0 k rfl hks ?_)
    | (refine hin ?_)
    | (refine LoopW.to ih rfl rfl))
 ·have hle := poolA_le p l s
  rw [if_neg (by omega)] at hK
  repeat' ((conv => whnf); first
  | refine Yz ?_
   | (exact hK))
omit g in
theorem copy_id (n : Nat) : patch (List.replicate n [DI 0]).flatten (0 * 1) (((idL n).map DI).take (min (idL n).length n * 1)) = (idL n).map DI := by
 have h := idL_length n
 have hm : ((idL n).map DI).take (min (idL n).length n * 1) = (idL n).map DI := List.take_of_length_le (by simp [h])
 rw [hm]
 unfold patch
 simp [h]
omit g in
theorem pool_win (s : List Int) (a n : Nat) (h : s.length = n) : (if 0 + a = 0 ∧ n - a = n then s.map DI else win (s.map DI) ((0 + a) * 1) ((n - a) * 1)) = (s.drop a).map DI := by
 subst h
 split
 ·rename_i h
  rw [show a = 0 by omega]
  rfl
 ·unfold win
  rw [Nat.zero_add, Nat.mul_one, Nat.mul_one, ← List.map_drop, List.take_of_length_le (by simp)]
set_option maxHeartbeats 16000000 in
theorem s_order {p : Prg} {l : List Clm} {w s : List Int} (ok : OkRk p l w) (t : Tot l.length (ltB p l w)) (hs : Srt l.length (ltB p l w) s) : Fc E n_priority_ranking_order [Rkv p l w] (LI (rankL p l s)) := by
 refine g.fn rfl rfl ?_
 have l1 := ok.n
 have hil := idL_length l.length
 have hi := s_indices g l.length (by omega)
 have hsort0 := fun {K} => in_sortR g (K := K) t ok.n n_priority_ranking_order_1 (.list p.cl.length (p.cl.flatMap Cls.cells)) (DI p.po) (DI p.of) (DI p.fo) (.list l.length (l.flatMap Clm.cells)) (.list w.length (w.map DI)) (fun x y r K hx hy hK => in_order1 g ok x y r hx hy hK)
 have hsort : ∀ {K : V → Mem → Prop} {xs : List D}, xs = (idL l.length).map DI → K (.tup []) (ordM p l w s) → In E 1 n_slices_SortFunc_Lint_int [.ref ⟨0, 14, 0⟩ 0 l.length l.length, .fn n_priority_ranking_order_1 [] [.ptr ⟨0, 1, 0⟩ 0 0]] [(⟨0, 1, 0⟩, .cells ty_priority_ranking [LC p.cl, I p.po, I p.of, I p.fo, LM l, LI w]), (⟨0, 2, 0⟩, .row true ty_int 1 0 []), (⟨0, 14, 0⟩, .row true ty_int 1 l.length xs)] K := fun h1 h2 => by
  subst h1
  refine hsort0 fun r hr => ?_
  rw [hs.same t hr]
  exact h2
 clear hsort0
 have hsl := hs.len
 have hix := fun {K} => in_index g ok s (K := K) hsl (fun x hx => hs.pm.mem_iff.1 hx)
 repeat' ((conv => whnf); first
 | refine Yz ?_
  | (apply CallI.of; assumption)
  | (refine Need.mk ⟨by omega, rfl, by omega, by omega⟩ ?_)
  | (refine hsort (copy_id _) ?_)
  | (refine hix ?_))
 by_cases ha : poolA p l s < s.length
 ·rw [if_pos ha]
  have hP : (s.drop (poolA p l s)).length = l.length - poolA p l s := by simp [hsl]
  have hpm : ∀ x ∈ s.drop (poolA p l s), x ∈ idL l.length := fun x hx => hs.pm.mem_iff.1 (List.mem_of_mem_drop hx)
  have hwin := pool_win s (poolA p l s) l.length hsl
  have hrk : rankL p l s = s.take (poolA p l s) ++ (shrL p.of p.fo ((s.drop (poolA p l s)).map fun i => (atC l i).ne)).map fun j => (s.drop (poolA p l s)).getD j.toNat 0 := rfl
  generalize rankL p l s = R at *
  generalize poolA p l s = a at *
  generalize hPs : s.drop a = P at *
  repeat' ((conv => whnf); first
  | refine Yz ?_
   | (refine Bounds.at a l.length rfl rfl ⟨by omega, by omega⟩ ?_)
   | (refine In.enter (f := n_slices_Clone_Lint_int) g.lim rfl rfl ?_)
   | (refine Need.mk ⟨rfl, rfl, rfl, rfl, rfl, by rw [hwin]; simp [hP], by show (0 + (l.length - a)) * 8 ≤ _; omega, by omega⟩ ?_))
  refine LoopW.to (LoopW.up g (fun k => [(1, .ptr ⟨0, 1, 0⟩ 0 0), (3, .ref ⟨0, 14, 0⟩ 0 l.length l.length), (4, I a), (5, LI P), (6, .ref ⟨0, 6, 0⟩ 0 k k), (34, LI P), (35, I P.length), (36, I k)])
   (fun k => ordM p l w s ++ [(⟨0, 6, 0⟩, .row false ty_bool 1 k ((P.take k).map fun i => D.bool (atC l i).ne))]) P.length (fun k hk ih => ?_) 0 (Nat.zero_le _)) ?_ ?_
  ·by_cases hlt : k < P.length
   ·have ih := ih hlt
    have hx := hpm _ (List.getElem_mem hlt)
    rw [List.take_add_one, List.getElem?_eq_getElem hlt, List.map_append] at ih
    obtain ⟨i, hxi, hi⟩ := idx_nat hx
    have ea : atC l (i : Int) = l[i] := atC_get (i := (i : Int)) (by omega)
    have hlen : ((P.take k).map fun i => D.bool (atC l i).ne).length = k := by simp; omega
    simp only [Option.toList_some, List.map_cons, List.map_nil] at ih
    rw [hxi, ea] at ih
    repeat' ((conv => whnf); first
    | refine Yz ?_
     | (refine Pick.intI k rfl hlt ?_; rw [hxi])
     | (refine Pick.rec Clm.cells_length i rfl hi rfl ?_)
     | (refine Need.mk (by simp only [List.length_cons, List.length_nil]; omega) ?_)
     | (refine LoopW.to ih rfl rfl))
   ·obtain rfl : k = P.length := by omega
    rw [List.take_length]
    have hne : (P.map fun i => (atC l i).ne).length = P.length := List.length_map ..
    have hmap : (P.map fun i => D.bool (atC l i).ne) = (P.map fun i => (atC l i).ne).map D.bool := by rw [List.map_map]; rfl
    have hil : ∀ {n : Nat} {cs : List D}, n = P.length → cs = P.map (fun i => D.bool (atC l i).ne) → Fc E n_priority_interleaved [I p.of, I p.fo, .d (.list n cs)] (LI (shrL p.of p.fo (P.map fun i => (atC l i).ne))) := fun h1 h2 => by
     subst h1 h2
     have : Fc E n_priority_interleaved [I p.of, I p.fo, .d (.list (P.map fun i => (atC l i).ne).length ((P.map fun i => (atC l i).ne).map D.bool))] (LI (shrL p.of p.fo (P.map fun i => (atC l i).ne))) := s_interleaved g p.of p.fo (P.map fun i => (atC l i).ne) ok.of' (by omega)
     rw [hne, ← hmap] at this
     exact this
    have hord := shrL_ord p.of p.fo (P.map fun i => (atC l i).ne)
    rw [hne] at hord
    have hrl := hord.len
    generalize shrL p.of p.fo (P.map fun i => (atC l i).ne) = r at *
    repeat' ((conv => whnf); first
    | refine Yz ?_
     | (refine CallI.of (hil rfl (if_pos ⟨rfl, rfl⟩)) ?_))
    refine LoopW.to (LoopW.up g (fun k => [(3, .ref ⟨0, 14, 0⟩ 0 l.length l.length), (4, I a), (5, LI P), (57, LI r), (58, I r.length), (59, I k)])
     (fun k => ordM p l w (s.take a ++ (r.take k).map (fun j => P.getD j.toNat 0) ++ s.drop (a + k)) ++ [(⟨0, 6, 0⟩, .row false ty_bool 1 P.length (P.map fun i => D.bool (atC l i).ne))]) r.length (fun k hk ih => ?_) 0 (Nat.zero_le _)) rfl ?_
    ·by_cases hlt : k < r.length
     ·have ih := ih hlt
      have hjr := hord.rng k (by omega)
      have hrk : r.getD k 0 = r[k] := by simp [List.getD, hlt]
      rw [hrk] at hjr
      obtain ⟨j, hj, hjP⟩ : ∃ j : Nat, r[k] = j ∧ j < P.length := ⟨r[k].toNat, by omega, by omega⟩
      have hset : (s.take a ++ (r.take k).map (fun j => P.getD j.toNat 0) ++ s.drop (a + k)).set (a + k) P[j] = s.take a ++ (r.take (k + 1)).map (fun j => P.getD j.toNat 0) ++ s.drop (a + (k + 1)) := by
       have hak : a + k < s.length := by omega
       have hlen : (s.take a ++ (r.take k).map fun j => P.getD j.toNat 0).length = a + k := by simp; omega
       rw [List.drop_eq_getElem_cons hak, List.set_append_right _ _ (by omega), hlen, Nat.sub_self, List.set_cons_zero, List.take_add_one, List.getElem?_eq_getElem hlt, List.map_append, hj]
       simp [List.getD, hjP, Nat.add_assoc]
      have hTl : (s.take a ++ (r.take k).map (fun j => P.getD j.toNat 0) ++ s.drop (a + k)).length = l.length := by simp; omega
      rw [← hset] at ih
      generalize s.take a ++ (r.take k).map (fun j => P.getD j.toNat 0) ++ s.drop (a + k) = T at *
      have hp := patch_set T (a + k) P[j] (by omega)
      repeat' ((conv => whnf); first
      | refine Yz ?_
       | (refine Pick.intI k rfl hlt ?_; rw [hj])
       | (refine Pick.intI j rfl hjP ?_)
       | (refine Need.mk ⟨rfl, by simp; omega, rfl⟩ ?_)
       | (refine LoopW.to ih rfl ?_))
      have e : (0 + ((a : Int) + (k : Int)).toNat) * 1 = a + k := by omega
      rw [e, hp]
      rfl
     ·obtain rfl : k = r.length := by omega
      rw [List.take_length, List.drop_of_length_le (by omega), List.append_nil, ← hrk]
      have hRl : R.length = l.length := by
       rw [hrk]
       simp
       omega
      repeat' ((conv => whnf); first
      | refine Yz ?_
       | (refine Ret.mk ?_))
      rw [if_pos ⟨rfl, rfl⟩]
      show V.d (.list l.length _) = V.d (.list R.length _)
      rw [hRl]
    ·simp
  ·rw [if_pos ⟨rfl, rfl⟩, hwin, List.nil_append, ← hP, Nat.zero_add P.length]
   rfl
  ·rfl
 ·rw [if_neg ha]
  have he : rankL p l s = s := by
   have := poolA_le p l s
   unfold rankL
   rw [List.take_of_length_le (by omega), List.drop_of_length_le (by omega)]
   simp [shrL, shrG]
  rw [he]
  repeat' ((conv => whnf); first
  | refine Yz ?_
   | (refine Ret.mk ?_))
  rw [if_pos ⟨rfl, rfl⟩]
  show V.d (.list l.length _) = V.d (.list s.length _)
  rw [hsl]
end
end Go.Proofs.YtlnlcdnpgjhaaacGreatDoor.Co
/-
 Priority: keys checked; equal lists; lists of integers as parameters.
-/
namespace Go.Proofs.YtlnlcdnpgjhaaacGreatDoor.Co
open Go Go.Evl
set_option maxRecDepth 100000
section
variable {E : Oracle} (g : Good E)
include g
theorem s_checkKey (n : Int) : Fc E n_priority_checkKey [I n] (I (rng n 1 2147483646)) := by
 refine g.fn rfl rfl ?_
 have h := s_pwithin g n 1 2147483646
 repeat' ((conv => whnf); first
 | refine Yz ?_
  | (apply CallI.of; assumption)
  | (refine Ret.mk rfl))
end
end Go.Proofs.YtlnlcdnpgjhaaacGreatDoor.Co
/-
 Priority: Rank, Why, CheckRank and Better, by the program.
-/
namespace Go.Proofs.YtlnlcdnpgjhaaacGreatDoor.Co
open Go Go.Evl
set_option maxRecDepth 100000
def chkRk (p : Prg) (key : Int) (l : List Clm) : Int := firstI [chkPg p, rng key 1 2147483646, chkCms l]
theorem chkRk_zero {p : Prg} {key : Int} {l : List Clm} (h : chkRk p key l = 0) : chkPg p = 0 ∧ (1 ≤ key ∧ key ≤ 2147483646) ∧ chkCms l = 0 := by
 unfold chkRk at h
 rw [firstI_zero] at h
 exact ⟨h _ (by simp), rng_zero.1 (h _ (by simp)), h _ (by simp)⟩
theorem rk_ok {p : Prg} {key : Int} {l : List Clm} (h : chkRk p key l = 0) (hl : l.length ≤ 12) : OkRk p l (lotL key l) := by
 obtain ⟨h1, h2, h3⟩ := chkRk_zero h
 have ok := chkPg_zero h1
 exact ⟨ok.small, ok.okWh, ok.okKy, (chkCms_zero h3).2.1, hl, lotL_length key l, ok.of'⟩
theorem rk_tot {p : Prg} {key : Int} {l : List Clm} (h : chkRk p key l = 0) : Tot l.length (ltB p l (lotL key l)) := ltB_tot (chkCms_zero (chkRk_zero h).2.2).2.2
section
variable {E : Oracle} (g : Good E)
include g
theorem s_checkRanking (p : Prg) (key : Int) (l : List Clm) (hs : SmallP p) (hl : l.length ≤ 1000000) : Fc E n_priority_checkRanking [Pgv p, I key, LM l] (I (chkRk p key l)) := by
 have h1 := s_CheckProgram g p hs
 have h2 := s_checkKey g key
 have h3 := s_checkClaims g l hl
 have h4 := s_pfirst3 g (chkPg p) (rng key 1 2147483646) (chkCms l)
 refine g.fn rfl rfl ?_
 unfold chkRk
 repeat' ((conv => whnf); first
 | refine Yz ?_
  | (apply CallI.of; assumption)
  | (refine Ret.mk rfl))
theorem s_ranked {p : Prg} {key : Int} {l : List Clm} (h : chkRk p key l = 0) (hl : l.length ≤ 12) : Fc E n_priority_ranked [Pgv p, I key, LM l] (Rkv p l (lotL key l)) := by
 obtain ⟨h1, h2, h3⟩ := chkRk_zero h
 have hk := s_lots g key l h2 hl (chkCms_zero h3).2.2
 refine g.fn rfl rfl ?_
 repeat' ((conv => whnf); first
 | refine Yz ?_
  | (apply CallI.of; assumption)
  | (refine Ret.mk rfl))
theorem s_Rank {p : Prg} {key : Int} {l : List Clm} {s : List Int} (h : chkRk p key l = 0) (hl : l.length ≤ 12) (hs : Srt l.length (ltB p l (lotL key l)) s) : Fc E n_priority_Rank [Pgv p, I key, LM l] (.tup [LI (rankL p l s), I 0]) := by
 have ok := rk_ok h hl
 have h1 := s_checkRanking g p key l ok.sm (by omega)
 have h2 := s_ranked g h hl
 have h3 := s_order g ok (rk_tot h) hs
 rw [h] at h1
 refine g.fn rfl rfl ?_
 repeat' ((conv => whnf); first
 | refine Yz ?_
  | (apply CallI.of; assumption)
  | (refine Ret.mk rfl))
end
end Go.Proofs.YtlnlcdnpgjhaaacGreatDoor.Co
/-
 The published program; the fixed example of the chapters 1 and 5; claims and programs that are valid and short.
-/
namespace Go.Proofs.YtlnlcdnpgjhaaacGreatDoor.Co
open Go Go.Evl
set_option maxRecDepth 100000
abbrev wHis : List UInt8 := [104, 105, 115, 116, 111, 114, 105, 99]
abbrev wRet : List UInt8 := [114, 101, 116, 105, 109, 101, 100]
abbrev wYea : List UInt8 := [121, 101, 97, 114, 114, 111, 117, 110, 100]
abbrev wDays : List UInt8 := [100, 97, 121, 115]
abbrev wSea : List UInt8 := [115, 101, 97, 116, 115]
abbrev wDis : List UInt8 := [100, 105, 115, 116, 97, 110, 99, 101]
def dflC : List Cls := [⟨wHis, [⟨wHis, [61], 1⟩, ⟨wRet, [61], 0⟩], [⟨wDays, true⟩, ⟨wSea, true⟩]⟩, ⟨wRet, [⟨wHis, [61], 1⟩], [⟨wDays, true⟩, ⟨wSea, true⟩]⟩, ⟨wYea, [⟨wYea, [61], 1⟩], [⟨wDays, true⟩, ⟨wSea, true⟩, ⟨wDis, true⟩]⟩, ⟨[111, 116, 104, 101, 114, 115], [], [⟨wDays, true⟩, ⟨wSea, true⟩, ⟨wDis, true⟩]⟩]
def dflP (po m fo : Int) : Prg := ⟨dflC, po, m, fo⟩
theorem dfl_classes : chkCsG [] dflC = 0 := by decide +kernel
theorem dfl_ok {po m fo : Int} (h : chkPool (dflP po m fo) = 0) : chkPg (dflP po m fo) = 0 := by
 unfold chkPg
 rw [firstI_zero]
 intro x hx
 simp only [List.mem_cons, List.not_mem_nil, or_false] at hx
 rcases hx with rfl | rfl | rfl | rfl
 ·rfl
 ·rfl
 ·exact dfl_classes
 ·exact h
section
variable {E : Oracle} (g : Good E)
include g
theorem s_Default : Fc E n_priority_Default [] (Pgv (dflP 2 2 1)) := g.compR 1000 (by decide +kernel)
theorem r_Default : Fc E n_ref05_Default [] (Pgv (dflP 2 2 1)) := g.compR 1000 (by decide +kernel)
abbrev ruA (nm : List UInt8) (d : Int) : List D := [.str nm, .str [97, 98], .str [65], .str [], .str [102, 97, 114], .str [], DI 2, DI 8, DI d, DI 60, DI 0, DI 1, DI 0, .bool false, .bool false, .bool false, .bool false, DI 0]
theorem ru1 : Fc E n_priority_Fact [.d (.agg (ruA [97] 96)), S wDays] (.tup [I 2, I 0]) := g.compR 1000 (by decide +kernel)
theorem ru2 : Fc E n_priority_Rank [Pgv (dflP 2 2 1), I 3, .d (.list 2 (ruA [97] 96 ++ ruA [98] 127))] (.tup [LI [1, 0], I 0]) := g.compR 2000 (by decide +kernel)
theorem ru3 : Fc E n_calendar_Count [Per 2 8 96] (.tup [I 2, I 0]) := g.compR 100 (by decide +kernel)
theorem ru4 : Fc E n_ref01_SameInts [LI [1, 0], LI [1, 0]] (B true) := g.compR 100 (by decide +kernel)
theorem s_chockRules : Fc E n_top_chockRules [] (B true) := by
 have h1 := s_Default g
 refine g.fn rfl rfl ?_
 repeat' ((conv => whnf); first
 | refine Yz ?_
  | (apply CallI.of; assumption)
  | (apply CallI.of; first | exact ru1 g | exact ru2 g | exact ru3 g | exact ru4 g)
  | (exact Ret.mk rfl))
def fairB (l : List Clm) : Prop := l.length ≤ 6 ∧ (∀ c ∈ l, briefB c.rq = true) ∧ chkCms l = 0
theorem s_chockFair (l : List Clm) (hl : l.length ≤ 9223372036854775807) : (fairB l → Fc E n_top_chockFair [Pgv (dflP 2 2 1), LM l, I 6] (B true)) ∧ (¬ fairB l → Fc E n_top_chockFair [Pgv (dflP 2 2 1), LM l, I 6] (B false)) := by
 have h1 : Fc E n_ref05_Short [Pgv (dflP 2 2 1)] (B true) := g.compR 1000 (by decide +kernel)
 have h2 := r_ShortClaims g l 6 hl
 have h3 : Fc E n_ref05_CheckProgram [Pgv (dflP 2 2 1)] (I 0) := g.compR 1000 (by decide +kernel)
 by_cases hb : ((l.length : Int) ≤ 6 ∨ l.length = 65) ∧ ∀ c ∈ l, briefB c.rq = true
 ·rw [decide_eq_true hb] at h2
  by_cases h6 : l.length ≤ 6
  ·have h4 := r_CheckClaims g l (by omega)
   by_cases hz : chkCms l = 0
   ·rw [hz] at h4
    refine ⟨fun _ => ?_, fun h => absurd ⟨h6, hb.2, hz⟩ h⟩
    refine g.fn rfl rfl ?_
    repeat' ((conv => whnf); first
    | refine Yz ?_
     | (apply CallI.of; assumption)
     | (exact Ret.mk rfl))
   ·refine ⟨fun h => absurd h.2.2 hz, fun _ => ?_⟩
    refine g.fn rfl rfl ?_
    repeat' ((conv => whnf); first
    | refine Yz ?_
     | (apply CallI.of; assumption)
     | (refine Cmp.ff hz ?_)
     | (exact Ret.mk rfl))
  ·refine ⟨fun h => absurd h.1 h6, fun _ => ?_⟩
   refine g.fn rfl rfl ?_
   repeat' ((conv => whnf); first
   | refine Yz ?_
    | (apply CallI.of; assumption)
    | (exact Ret.mk rfl))
 ·rw [decide_eq_false hb] at h2
  refine ⟨fun h => absurd ⟨.inl (by have := h.1; omega), h.2.1⟩ hb, fun _ => ?_⟩
  refine g.fn rfl rfl ?_
  repeat' ((conv => whnf); first
  | refine Yz ?_
   | (apply CallI.of; assumption)
   | (exact Ret.mk rfl))
set_option maxHeartbeats 8000000 in
theorem s_chockClaims (l : List Clm) (hl : l.length ≤ 1000) : Fc E n_top_chockClaims [LM l] (LM l) := by
 refine g.fn rfl rfl ?_
 repeat' ((conv => whnf); first
 | refine Yz ?_
  | fail)
 refine LoopW.to (LoopW.up g (fun k => [(3, .ref ⟨0, 3, 0⟩ 0 k k), (6, LM l), (7, I l.length), (8, I k)]) (fun k => [(⟨0, 2, 0⟩, .row false ty_priority_Claim 18 0 []), (⟨0, 3, 0⟩, .row false ty_priority_Claim 18 k ((l.take k).flatMap Clm.cells))]) l.length (fun k hk ih => ?_) 0 (Nat.zero_le _)) rfl rfl
 by_cases hlt : k < l.length
 ·have ih := ih hlt
  have hf := flatR_take Clm.cells l k hlt
  have hfl := flatR_length Clm.cells 18 Clm.cells_length (l.take k)
  rw [List.length_take, Nat.min_eq_left hk] at hfl
  rw [hf] at ih
  repeat' ((conv => whnf); first
  | refine Yz ?_
   | (refine PickW.rec Clm.cells_length k rfl hlt ?_)
   | (refine Need.mk ⟨rfl, rfl, rfl, rfl, rfl, rfl, by show (k + 1) * 168 ≤ _; omega, by omega⟩ ?_)
   | (refine LoopW.to ih rfl rfl)
   | fail)
 ·obtain rfl : k = l.length := by omega
  rw [List.take_length]
  repeat' ((conv => whnf); first
  | refine Yz ?_
   | (rw [if_pos (⟨rfl, rfl⟩ : _ ∧ _)])
   | (exact Ret.mk rfl)
   | fail)
end
end Go.Proofs.YtlnlcdnpgjhaaacGreatDoor.Co
/-
 Priority: newcomers.
-/
namespace Go.Proofs.YtlnlcdnpgjhaaacGreatDoor.Co
open Go Go.Evl
set_option maxRecDepth 100000
def onB (ca : List UInt8) (day : Int) (q : Rqt) : Bool := decide (q.ca = ca) && hasB q.fr q.to q.da day
def onN (ca : List UInt8) (day : Int) (l : List Rqt) : Nat := l.countP (onB ca day)
theorem onN_succ {ca : List UInt8} {day : Int} {l : List Rqt} {k : Nat} (h : k < l.length) : (onN ca day (l.take (k + 1)) : Int) = onN ca day (l.take k) + (if onB ca day l[k] = true then 1 else 0) := by
 unfold onN
 rw [List.take_add_one, List.getElem?_eq_getElem h, List.countP_append]
 simp only [Option.toList_some, List.countP_cons, List.countP_nil]
 split <;> simp
theorem onN_le (ca : List UInt8) (day : Int) (l : List Rqt) : onN ca day l ≤ l.length := List.countP_le_length
def chkHeld (ca : List UInt8) (day : Int) (l : List Rqt) : Int := if isNameB ca = true then firstI [rng day 0 99999, chkRqs l] else 8
section
variable {E : Oracle} (g : Good E)
include g
set_option maxHeartbeats 4000000 in
theorem in_new (l : List Rqt) (q : Rqt) (hl : l.length ≤ 1000000) {K : V → Mem → Prop}
  (hK : K (I (atG q.nm 0 l)) [(⟨0, 3, 0⟩, .cells ty_api_Request [V.d (.str q.nm), V.d (.str q.ca), V.d (.str q.ki), V.d (.str q.te), V.d (.str q.pa), V.d (.str q.li), V.d (DI q.fr), V.d (DI q.to), V.d (DI q.da), V.d (DI q.mi), V.d (DI q.se), V.d (DI q.si), V.d (DI q.no)])]) :
  In E 2 n_slices_IndexFunc_Lapi_Request_api_Request [LQ l, .fn n_priority_Newcomer_1_1 [] [.ptr ⟨0, 3, 0⟩ 0 0]] [(⟨0, 3, 0⟩, .cells ty_api_Request [V.d (.str q.nm), V.d (.str q.ca), V.d (.str q.ki), V.d (.str q.te), V.d (.str q.pa), V.d (.str q.li), V.d (DI q.fr), V.d (DI q.to), V.d (DI q.da), V.d (DI q.mi), V.d (DI q.se), V.d (DI q.si), V.d (DI q.no)])] K := by
 generalize hA : atG q.nm 0 l = A at *
 refine In.enter (f := n_slices_IndexFunc_Lapi_Request_api_Request) g.lim rfl rfl ?_
 repeat' ((conv => whnf); first
 | refine Yz ?_)
 refine LoopW.to (LoopW.upP g (fun k => [(0, LQ l), (1, .fn n_priority_Newcomer_1_1 [] [.ptr ⟨0, 3, 0⟩ 0 0]), (7, I l.length), (8, I k)]) (fun _ => _) (fun k => atG q.nm k (l.drop k) = A) l.length (fun k hk h0 ih => ?_) 0 (Nat.zero_le _) hA) rfl rfl
 by_cases hlt : k < l.length
 ·rw [List.drop_eq_getElem_cons hlt, atG] at h0
  have ih := ih hlt
  by_cases hd : l[k].nm = q.nm
  ·rw [if_pos hd] at h0
   subst h0
   repeat' ((conv => whnf); first
   | refine Yz ?_
    | (refine PickW.rec Rqt.cells_length k rfl hlt ?_)
    | (refine In.enter (f := n_priority_Newcomer_1_1) g.lim rfl rfl ?_)
    | (refine Cmp.tt hd ?_)
    | (exact hK))
  ·rw [if_neg hd] at h0
   have ih := ih h0
   repeat' ((conv => whnf); first
   | refine Yz ?_
    | (refine PickW.rec Rqt.cells_length k rfl hlt ?_)
    | (refine In.enter (f := n_priority_Newcomer_1_1) g.lim rfl rfl ?_)
    | (refine Cmp.ff hd ?_)
    | (refine LoopW.to ih rfl rfl))
 ·rw [List.drop_eq_nil_of_le (by omega), atG] at h0
  subst h0
  repeat' ((conv => whnf); first
  | refine Yz ?_
   | (exact hK))
set_option maxHeartbeats 4000000 in
theorem s_New1 (l : List Rqt) (q : Rqt) (hl : l.length ≤ 1000000) : Fc E n_priority_Newcomer_1 [LQ l, Rqv q] (I (firstI [chkRq q, if q.nm ∈ nmsQ l then 9 else 0])) := by
 refine g.fn rfl rfl ?_
 have hc := s_CheckRequest g q
 have hm : 0 ≤ atG q.nm 0 l ↔ q.nm ∈ nmsQ l := by
  rcases atG_spec q.nm l 0 with ⟨a1, a2⟩ | ⟨j, hj, a1, a2, _⟩
  ·rw [a1]
   exact ⟨fun h => absurd h (by decide), fun h => absurd h a2⟩
  ·rw [a1]
   refine ⟨fun _ => ?_, fun _ => by omega⟩
   unfold nmsQ
   rw [List.mem_map]
   exact ⟨_, List.getElem_mem hj, a2⟩
 have hin := fun {K} => in_new g (K := K) l q hl
 generalize atG q.nm 0 l = r at *
 by_cases hr : 0 ≤ r
 ·rw [if_pos (hm.1 hr)]
  repeat' ((conv => whnf); first
  | refine Yz ?_
   | (refine In.enter (f := n_slices_ContainsFunc_Lapi_Request_api_Request) g.lim rfl rfl ?_)
   | (refine hin ?_)
   | (apply CallI.of; assumption)
   | (refine CallI.of (s_pwhen g _ _) ?_)
   | (refine CallI.of (s_pfirst2 g _ _) ?_)
   | (refine Ret.mk rfl))
 ·rw [if_neg (fun h => hr (hm.2 h))]
  repeat' ((conv => whnf); first
  | refine Yz ?_
   | (refine In.enter (f := n_slices_ContainsFunc_Lapi_Request_api_Request) g.lim rfl rfl ?_)
   | (refine hin ?_)
   | (apply CallI.of; assumption)
   | (refine CallI.of (s_pwhen g _ _) ?_)
   | (refine CallI.of (s_pfirst2 g _ _) ?_)
   | (refine Ret.mk rfl))
set_option maxHeartbeats 4000000 in
theorem s_eachQ (l : List Rqt) (hl : l.length ≤ 1000000) : Fc E n_priority_each_api_Request [LQ l, .d (.fn n_priority_Newcomer_1)] (I (chkRqG [] l)) := by
 refine g.fn rfl rfl ?_
 generalize hR : chkRqG [] l = R
 repeat' ((conv => whnf); first
 | refine Yz ?_)
 refine LoopW.to (LoopW.upP g (fun k => [(0, LQ l), (1, .d (.fn n_priority_Newcomer_1)), (8, LQ l), (9, I l.length), (10, I k)]) (fun _ => []) (fun k => chkRqG (nmsQ (l.take k)) (l.drop k) = R) l.length (fun k hk h0 ih => ?_) 0 (Nat.zero_le _) hR) rfl rfl
 by_cases hlt : k < l.length
 ·rw [List.drop_eq_getElem_cons hlt, chkRqG, ← nmsQ_succ hlt] at h0
  have ih := ih hlt
  have hn := s_New1 g (l.take k) l[k] (by simp; omega)
  have ht : V.d (.list (k - 0) (win (l.flatMap Rqt.cells) (0 * 13) ((k - 0) * 13))) = LQ (l.take k) := by
   rw [Nat.zero_mul, Nat.sub_zero, win_take l k (by omega), LQ, List.length_take, Nat.min_eq_left (by omega)]
  generalize firstI [chkRq l[k], if l[k].nm ∈ nmsQ (l.take k) then 9 else 0] = r at *
  by_cases hz : r = 0
  ·rw [if_pos hz] at h0
   have ih := ih h0
   repeat' ((conv => whnf); first
   | refine Yz ?_
    | (refine PickW.rec Rqt.cells_length k rfl hlt ?_)
    | (refine Bounds.at 0 k rfl rfl (by omega) ?_ <;> (try rw [ht]))
    | (refine CallI.of hn ?_)
    | (refine Cmp.ff (fun h => h hz) ?_)
    | (refine LoopW.to ih rfl rfl))
  ·rw [if_neg hz] at h0
   rw [← h0]
   repeat' ((conv => whnf); first
   | refine Yz ?_
    | (refine PickW.rec Rqt.cells_length k rfl hlt ?_)
    | (refine Bounds.at 0 k rfl rfl (by omega) ?_ <;> (try rw [ht]))
    | (refine CallI.of hn ?_)
    | (refine Cmp.tt hz ?_)
    | (refine Ret.mk rfl))
 ·rw [List.drop_eq_nil_of_le (by omega), chkRqG] at h0
  rw [← h0]
  repeat' ((conv => whnf); first
  | refine Yz ?_
   | (refine Ret.mk rfl))
set_option maxHeartbeats 4000000 in
theorem s_Newcomer_ok (ca : List UInt8) (day : Int) (l : List Rqt) (h : chkHeld ca day l = 0) : Fc E n_priority_Newcomer [S ca, I day, LQ l] (.tup [B (decide (onN ca day l < 5)), I 0]) := by
 refine g.fn rfl rfl ?_
 have h1 := s_IsName g ca
 have h2 := s_pwithin g day 0 99999
 unfold chkHeld at h
 split at h
 ·rename_i hn
  rw [firstI_zero] at h
  have hd : rng day 0 99999 = 0 := h _ (by simp)
  have hq : chkRqs l = 0 := h _ (by simp)
  have hl := (chkRqs_zero hq).1
  have ho := (chkRqs_zero hq).2.2
  have h3 := s_eachQ g l (by omega)
  have hg : chkRqG [] l = 0 := by unfold chkRqs at hq; rwa [if_neg (by omega)] at hq
  rw [hn] at h1
  rw [hd] at h2
  rw [hg] at h3
  repeat' ((conv => whnf); first
  | refine Yz ?_
   | (apply CallI.of; assumption)
   | (refine CallI.of (s_pwhen g _ _) ?_)
   | (refine CallI.of (s_pfirst3 g _ _ _) ?_))
  refine LoopW.to (LoopW.up g (fun k => [(0, S ca), (1, I day), (9, I (onN ca day (l.take k))), (34, LQ l), (35, I l.length), (36, I k)]) (fun _ => []) l.length (fun k hk ih => ?_) 0 (Nat.zero_le _)) rfl rfl
  by_cases hlt : k < l.length
  ·have ih := ih hlt
   have hc := ho l[k] (List.getElem_mem hlt)
   have hp : chkPer l[k].fr l[k].to l[k].da = 0 := by
    unfold chkRq at hc
    rw [firstI_zero] at hc
    exact hc _ (by simp)
   have hh := s_Has_ok g _ _ _ day hp hd
   have hs := onN_succ (ca := ca) (day := day) hlt
   have hx := onN_le ca day (l.take k)
   have hy : (l.take k).length ≤ 64 := by simp; omega
   rw [hs] at ih
   have b0 : Fc E n_priority_bit [B false] (I 0) := s_pbit g false
   have b1 : Fc E n_priority_bit [B true] (I 1) := s_pbit g true
   unfold onB at ih
   generalize hasB l[k].fr l[k].to l[k].da day = b at *
   by_cases hca : l[k].ca = ca
   ·rw [decide_eq_true hca, Bool.true_and] at ih
    cases b
    ·rw [if_neg (by decide)] at ih
     repeat' ((conv => whnf); first
     | refine Yz ?_
      | (refine PickW.rec Rqt.cells_length k rfl hlt ?_)
      | (apply CallI.of; assumption)
      | (refine Cmp.tt hca ?_)
      | (refine LoopW.to ih rfl rfl))
    ·rw [if_pos rfl] at ih
     repeat' ((conv => whnf); first
     | refine Yz ?_
      | (refine PickW.rec Rqt.cells_length k rfl hlt ?_)
      | (apply CallI.of; assumption)
      | (refine Cmp.tt hca ?_)
      | (refine LoopW.to ih rfl rfl))
   ·rw [decide_eq_false hca, Bool.false_and, if_neg (by decide)] at ih
    cases b
    all_goals repeat' ((conv => whnf); first
    | refine Yz ?_
     | (refine PickW.rec Rqt.cells_length k rfl hlt ?_)
     | (apply CallI.of; assumption)
     | (refine Cmp.ff hca ?_)
     | (refine LoopW.to ih rfl rfl))
  ·have e : l.take k = l := List.take_of_length_le (by omega)
   rw [e]
   by_cases h5 : onN ca day l < 5
   ·rw [decide_eq_true h5]
    repeat' ((conv => whnf); first
    | refine Yz ?_
     | (refine Ret.mk rfl))
   ·rw [decide_eq_false h5]
    repeat' ((conv => whnf); first
    | refine Yz ?_
     | (refine Ret.mk rfl))
 ·cases h
end
end Go.Proofs.YtlnlcdnpgjhaaacGreatDoor.Co
/-
 Priority: the order of claims that are given the other way round, and of a program without a share; in plain Lean.
-/
namespace Go.Proofs.YtlnlcdnpgjhaaacGreatDoor.Co
open Go Go.Evl
set_option maxRecDepth 100000
theorem rankL_ord {p : Prg} {l : List Clm} {s : List Int} (hs : s.Perm (idL l.length)) : Ord l.length (rankL p l s) := by
 have hl : (rankL p l s).length = l.length := by rw [rankL_length, hs.length_eq, idL_length]
 have hmem : ∀ k (h : k < (rankL p l s).length), (rankL p l s)[k] ∈ idL l.length := fun k h => hs.mem_iff.1 (rankL_in (List.getElem_mem h))
 have hg : ∀ k (h : k < (rankL p l s).length), (rankL p l s).getD k 0 = (rankL p l s)[k] := fun k h => by simp [List.getD, h]
 have hnd : (rankL p l s).Nodup := by
  have hsn : (s.take (poolA p l s) ++ s.drop (poolA p l s)).Nodup := by
   rw [List.take_append_drop]
   exact hs.nodup_iff.2 (idL_nodup _)
  obtain ⟨n1, n2, n3⟩ := List.nodup_append.1 hsn
  unfold rankL
  generalize s.drop (poolA p l s) = P at *
  have ho := shrL_ord p.of p.fo (P.map fun i => (atC l i).ne)
  rw [List.length_map] at ho
  generalize shrL p.of p.fo (P.map fun i => (atC l i).ne) = r at *
  have hrl := ho.len
  have hr : ∀ k (h : k < r.length), r.getD k 0 = r[k] := fun k h => by simp [List.getD, h]
  have hP : ∀ k (h : k < r.length), r[k].toNat < P.length := fun k h => by
   have := ho.rng k (by omega)
   rw [hr k h] at this
   omega
  have hv : ∀ k (h : k < r.length), P.getD r[k].toNat 0 = P[r[k].toNat]'(hP k h) := fun k h => by simp [List.getD, hP k h]
  refine List.nodup_append.2 ⟨n1, ?_, fun x hx y hy => ?_⟩
  ·refine List.pairwise_iff_getElem.2 fun i j hi hj hij e => ?_
   rw [List.length_map] at hi hj
   rw [List.getElem_map, List.getElem_map, hv i hi, hv j hj] at e
   have hw := List.pairwise_iff_getElem.1 n2
   have hne : r[i].toNat ≠ r[j].toNat := fun hc => by
    have h1 := ho.rng i (by omega)
    have h2 := ho.rng j (by omega)
    rw [hr i hi] at h1
    rw [hr j hj] at h2
    have := ho.inj i j (by omega) (by omega) (by rw [hr i hi, hr j hj]; omega)
    omega
   rcases Nat.lt_or_gt_of_ne hne with h | h
   ·exact hw _ _ (hP i hi) (hP j hj) h e
   ·exact hw _ _ (hP j hj) (hP i hi) h e.symm
  ·obtain ⟨j, hj, rfl⟩ := List.mem_map.1 hy
   obtain ⟨k, hk, rfl⟩ := List.getElem_of_mem hj
   rw [hv k hk]
   exact n3 x hx _ (List.getElem_mem _)
 refine ⟨hl, fun k hk => ?_, fun i j hi hj e => ?_⟩
 ·rw [hg k (by omega)]
  exact idL_mem.1 (hmem k (by omega))
 ·rw [hg i (by omega), hg j (by omega)] at e
  have hw := List.pairwise_iff_getElem.1 hnd
  rcases Nat.lt_trichotomy i j with h | h | h
  ·exact absurd e (hw i j (by omega) (by omega) h)
  ·exact h
  ·exact absurd e.symm (hw j i (by omega) (by omega) h)
end Go.Proofs.YtlnlcdnpgjhaaacGreatDoor.Co
/-
 Priority: how many of the first places are for newcomers when all claims are in the pool, in plain Lean.
-/
namespace Go.Proofs.YtlnlcdnpgjhaaacGreatDoor.Co
open Go Go.Evl
def dueN (m fo : Int) : Nat → Int
 | 0 => 0
 | k + 1 => dueN m fo k + if (k : Int) % m < fo then 1 else 0
def gotN (v : Int → Bool) (R : List Int) (k : Nat) : Int := ((R.take k).countP v : Nat)
theorem gotN_succ (v : Int → Bool) {R : List Int} {k : Nat} (h : k < R.length) : gotN v R (k + 1) = gotN v R k + if v R[k] = true then 1 else 0 := by
 unfold gotN
 rw [List.take_add_one, List.getElem?_eq_getElem h, List.countP_append]
 show ((_ + List.countP v [R[k]] : Nat) : Int) = _
 rw [List.countP_cons, List.countP_nil]
 split <;> simp
theorem due_le (m fo : Int) : ∀ k : Nat, 0 ≤ dueN m fo k ∧ dueN m fo k ≤ k
 | 0 => by simp [dueN]
 | k + 1 => by
  have := due_le m fo k
  rw [dueN]
  split <;> omega
theorem quo_all {l : List Bool} {tot : Nat} (m fo : Int) : ∀ (n i : Nat) (A C : List Int) (got due la lc : Int), Quo l tot i A C got due la lc → n + i = l.length → ∀ k : Nat, k ≤ n →
  got + gotN (fun x => l.getD x.toNat false) (shrG m fo n i A C) k ≥ tot ∨ got + gotN (fun x => l.getD x.toNat false) (shrG m fo n i A C) k ≥ due + (dueN m fo (i + k) - dueN m fo i)
 | n, i, A, C, got, due, la, lc, hq, hn, 0, _ => by
  have := hq.lo
  simp only [gotN, List.take_zero, List.countP_nil, Nat.add_zero]
  omega
 | 0, _, _, _, _, _, _, _, _, _, k + 1, hk => by omega
 | n + 1, i, A, C, got, due, la, lc, hq, hn, k + 1, hk => by
  have h1 := hq.hg
  have h2 := hq.hc
  obtain ⟨x, A', C', hp⟩ := pickQ_some (w := decide ((i : Int) % m < fo)) (A := A) (C := C) (by omega)
  have hd : dueN m fo (i + 1) = dueN m fo i + if decide ((i : Int) % m < fo) = true then 1 else 0 := by
   rw [dueN]
   simp
  have hx : ∀ (L : List Int), gotN (fun x => l.getD x.toNat false) (x :: L) (k + 1) = gotN (fun x => l.getD x.toNat false) L k + if l.getD x.toNat false = true then 1 else 0 := fun L => by
   unfold gotN
   rw [List.take_succ_cons, List.countP_cons]
   split <;> simp
  rw [shrG, hp]
  dsimp only
  rw [hx]
  rcases pickQ_cases hp with ⟨rfl, rfl, hc⟩ | ⟨rfl, rfl, hc⟩
  ·obtain ⟨q, rfl, hql⟩ := hq.na x (List.mem_cons_self ..)
   have ih := quo_all m fo n (i + 1) _ _ _ _ _ _ (hq.new hc) (by omega) k (by omega)
   have hg : l.getD (Int.toNat (q : Int)) false = true := by rw [Int.toNat_natCast, List.getD, hql]; rfl
   rw [hg, if_pos rfl]
   rw [hd, show i + 1 + k = i + (k + 1) by omega] at ih
   omega
  ·obtain ⟨q, rfl, hql⟩ := hq.nc x (List.mem_cons_self ..)
   have ih := quo_all m fo n (i + 1) _ _ _ _ _ _ (hq.old hc) (by omega) k (by omega)
   have hg : l.getD (Int.toNat (q : Int)) false = false := by rw [Int.toNat_natCast, List.getD, hql]; rfl
   rw [hg, if_neg (by decide)]
   rw [hd, show i + 1 + k = i + (k + 1) by omega] at ih
   omega
theorem sel_count : ∀ (k : Nat) (l : List Bool), (selG true k l).length = l.countP id
 | _, [] => rfl
 | k, b :: r => by
  have := sel_count (k + 1) r
  cases b
  ·simp [selG, this]
  ·simp [selG, this]
theorem idL_atC (l : List Clm) : (idL l.length).map (atC l) = l := by
 apply List.ext_getElem
 ·simp [idL_length]
 ·intro i h1 h2
  simp [idL, atC, h2]
theorem pool_zero {p : Prg} (hp : p.po = 0) (l : List Clm) : ∀ s : List Int, poolA p l s = 0
 | [] => rfl
 | x :: r => by
  have h : decide (p.po ≤ clA p l x) = true := decide_eq_true (by rw [hp]; exact (clsG_ge _ 0 _).1)
  unfold poolA
  rw [List.findIdx_cons, h]
  rfl
theorem first_places {p : Prg} (hp : p.po = 0) {l : List Clm} {s : List Int} (hs : s.Perm (idL l.length)) (k : Nat) (hk : k ≤ l.length) :
  gotN (fun i => (atC l i).ne) (rankL p l s) k ≥ (l.countP (·.ne) : Nat) ∨ gotN (fun i => (atC l i).ne) (rankL p l s) k ≥ dueN p.of p.fo k := by
 have hl : s.length = l.length := by rw [hs.length_eq, idL_length]
 generalize hns : s.map (fun i => (atC l i).ne) = ns
 have hnl : ns.length = l.length := by rw [← hns, List.length_map, hl]
 have hR : rankL p l s = (shrL p.of p.fo ns).map fun j => s.getD j.toNat 0 := by
  unfold rankL
  rw [pool_zero hp, List.take_zero, List.drop_zero, List.nil_append, hns]
 have htot : (selG true 0 ns).length = l.countP (·.ne) := by
  rw [sel_count, ← hns, List.countP_map]
  have h1 := hs.countP_eq (fun i => (atC l i).ne)
  have h2 : l.countP (·.ne) = (idL l.length).countP fun i => (atC l i).ne := by
   conv => lhs; rw [← idL_atC l]
   rw [List.countP_map]
   rfl
  rw [h2, ← h1]
  rfl
 have hq := quo_all p.of p.fo ns.length 0 _ _ _ _ _ _ (Quo.zero ns) (by omega) k (by omega)
 rw [htot] at hq
 have hg : gotN (fun i => (atC l i).ne) (rankL p l s) k = gotN (fun x => ns.getD x.toNat false) (shrL p.of p.fo ns) k := by
  rw [hR]
  unfold gotN
  rw [← List.map_take, List.countP_map]
  congr 1
  refine List.countP_congr fun x hx => ?_
  have hm : x ∈ shrL p.of p.fo ns := List.mem_of_mem_take hx
  have hb := (shrG_perm p.of p.fo _ _ _ _ (selG_length 0 ns)).mem_iff.1 hm
  have hlt : x.toNat < s.length := by
   rcases List.mem_append.1 hb with h | h
   all_goals
    obtain ⟨i, h1, h2⟩ := selG_mem h
    have := (List.getElem?_eq_some_iff.1 h2).1
    omega
  subst hns
  simp [List.getD, hlt]
 rw [hg]
 have h0 : dueN p.of p.fo 0 = 0 := rfl
 rw [h0, Nat.zero_add] at hq
 unfold shrL
 omega
end Go.Proofs.YtlnlcdnpgjhaaacGreatDoor.Co
/-
 Priority: the laws' copies of a program.
-/
namespace Go.Proofs.YtlnlcdnpgjhaaacGreatDoor.Co
open Go Go.Evl
set_option maxRecDepth 100000
end Go.Proofs.YtlnlcdnpgjhaaacGreatDoor.Co
/-
 Priority: short programs.
-/
namespace Go.Proofs.YtlnlcdnpgjhaaacGreatDoor.Co
open Go Go.Evl
set_option maxRecDepth 100000
end Go.Proofs.YtlnlcdnpgjhaaacGreatDoor.Co
/-
 Priority: programs as a law's parameters.
-/
namespace Go.Proofs.YtlnlcdnpgjhaaacGreatDoor.Co
open Go Go.Evl
set_option maxRecDepth 100000
end Go.Proofs.YtlnlcdnpgjhaaacGreatDoor.Co
/-
 Requests as a law's parameters.
-/
namespace Go.Proofs.YtlnlcdnpgjhaaacGreatDoor.Co
open Go Go.Evl
set_option maxRecDepth 100000
theorem fit_Requests {k : Nat} : ∀ (m : Nat) {ds : List D}, fitAll (fit Tryz.prog (k + 3)) (List.replicate m 43) ds → ∃ l : List Rqt, ds = l.flatMap Rqt.cells ∧ l.length = m
 | 0, ds, h => ⟨[], h, rfl⟩
 | m + 1, ds, h => by
  obtain ⟨a, b, rfl, h1, h2⟩ := h
  obtain ⟨x, rfl⟩ := fit_Request h1
  obtain ⟨l, rfl, h3⟩ := fit_Requests m h2
  exact ⟨x :: l, rfl, by simp [h3]⟩
theorem arg_Requests {x : D} (h : fitArg Tryz.prog 22 x) : ∃ l : List Rqt, x = .list l.length (l.flatMap Rqt.cells) := by
 obtain ⟨m, cs, rfl, _, h6⟩ := arg_l Tryz.underlying22 h
 obtain ⟨l, rfl, rfl⟩ := fit_Requests m h6
 exact ⟨l, rfl⟩
end Go.Proofs.YtlnlcdnpgjhaaacGreatDoor.Co
/-
 TopChockNewcomers returns true, for all requests, claims and numbers.
-/
namespace Go.Proofs.YtlnlcdnpgjhaaacGreatDoor.Co
open Go Go.Evl
set_option maxRecDepth 100000
theorem ok_sentL {l : List Rqt} (h : ∀ x ∈ l, chkRq x = 0) (hl : l.length ≤ 64) : OkMs (sentM l 100) :=
 ⟨by show msgB REQ = true; decide, by show headE HERE S2024 100 = 0; decide +kernel, by show (l.map nwn).length ≤ 64; rw [List.length_map]; exact hl, by
  show (chkLs REQ none 0 (l.map fun x => ⟨[78], x⟩)).2 = 0
  rw [chk_new h]⟩
theorem reqs_sent {l : List Rqt} (h : ∀ x ∈ l, chkRq x = 0) (hu : (nmsQ l).Nodup) (hl : l.length ≤ 64) : reqs [sentM l 100] = (l.map fun x => ⟨x, false, 100⟩, 0, 0) := by
 have m1 : chkMs (sentM l 100) = 0 := chkMs_ok.2 (ok_sentL h hl)
 have e1 : msgE (sentM l 100) (sentM l 100) (sentM l 100) = 0 := by
  unfold msgE
  rw [m1, if_pos (show (sentM l 100).ki = REQ from rfl), if_pos ⟨rfl, rfl⟩, if_neg (Int.lt_irrefl _)]
  rfl
 have g1 : linG 100 [] (sentM l 100).ls = (l.map fun x => ⟨x, false, 100⟩, 0) := lin_new 100 l [] (fun _ _ h => by cases h) hu (by simp; omega)
 show reqG (sentM l 100) (sentM l 100) 0 [] [sentM l 100] = _
 rw [reqG, if_pos e1, show (sentM l 100).da = 100 from rfl, g1, if_pos rfl, reqG]
theorem chkRqG_take : ∀ (l : List Rqt) (seen : List (List UInt8)) (k : Nat), chkRqG seen l = 0 → chkRqG seen (l.take k) = 0
 | [], _, _, h => by rw [List.take_nil]; exact h
 | _ :: _, _, 0, _ => rfl
 | x :: r, seen, k + 1, h => by
  rw [chkRqG] at h
  rw [List.take_succ_cons, chkRqG]
  by_cases hz : firstI [chkRq x, if x.nm ∈ seen then 9 else 0] = 0
  ·rw [if_pos hz] at h ⊢
   exact chkRqG_take r _ k h
  ·rw [if_neg hz] at h
   exact absurd h hz
theorem chkRqs_take {l : List Rqt} (k : Nat) (h : chkRqs l = 0) : chkRqs (l.take k) = 0 := by
 have h64 := (chkRqs_zero h).1
 unfold chkRqs at h ⊢
 rw [if_neg (by omega)] at h
 rw [if_neg (by rw [List.length_take]; omega)]
 exact chkRqG_take l [] k h
theorem chkHeld_ok {ca : List UInt8} {day : Int} {l : List Rqt} (h1 : isNameB ca = true) (h2 : 0 ≤ day ∧ day ≤ 99999) (h3 : chkRqs l = 0) : chkHeld ca day l = 0 := by
 unfold chkHeld
 rw [if_pos h1, rng_zero.2 h2, h3]
 rfl
abbrev cAb : List UInt8 := [97, 98]
abbrev cCd : List UInt8 := [99, 100]
abbrev cLst : V := .d (.list 2 [.str cAb, .str cCd])
abbrev cMem (a b c : Int) : Mem := [(⟨0, 5, 0⟩, .cells ty_3_uint8 [.d (.int .u8 a), .d (.int .u8 b), .d (.int .u8 c)])]
section
variable {E : Oracle} (g : Good E)
include g
set_option maxHeartbeats 8000000 in
theorem cn_count (held : List Rqt) (l : List Clm) (ca : List UInt8) (day a b c : Int) (j : Nat) (hc : ∀ x ∈ held, chkRq x = 0) (hl : held.length ≤ 8) (hd : 0 ≤ day ∧ day ≤ 99999) {K : Ex → Env → Mem → Prop}
  (hK : K (.exit 2) [(0, LQ held), (1, LM l), (5, .ptr ⟨0, 5, 0⟩ 0 0), (7, LQ held), (9, I day), (11, S ca), (12, I (onN ca day held)), (65, cLst), (66, I 2), (67, I j), (71, LQ held), (72, I held.length), (73, I held.length), (74, B false)] (cMem a b c)) :
  LoopW E ⟨0, 0 + 1⟩ [0, 1, 5, 7, 9, 11, 12, 65, 66, 67, 71, 72, 73] [⟨0, 5, 0⟩] b_top_TopChockNewcomers_1 [(0, LQ held), (1, LM l), (5, .ptr ⟨0, 5, 0⟩ 0 0), (7, LQ held), (9, I day), (11, S ca), (12, I 0), (65, cLst), (66, I 2), (67, I j), (71, LQ held), (72, I held.length), (73, I 0)] (cMem a b c) K := by
 refine LoopW.to (LoopW.up g (fun k => [(0, LQ held), (1, LM l), (5, .ptr ⟨0, 5, 0⟩ 0 0), (7, LQ held), (9, I day), (11, S ca), (12, I (onN ca day (held.take k))), (65, cLst), (66, I 2), (67, I j), (71, LQ held), (72, I held.length), (73, I k)]) (fun _ => cMem a b c) held.length (fun k hk ih => ?_) 0 (Nat.zero_le _)) rfl rfl
 by_cases hlt : k < held.length
 ·have ih := ih hlt
  have hp := chkPer_zero.1 (chk_parts (hc _ (List.getElem_mem hlt)))
  have hh := r_Has g held[k].fr held[k].to held[k].da day (by omega) (by omega)
  have hs := onN_succ (ca := ca) (day := day) hlt
  have hx := onN_le ca day (held.take k)
  have hy : (held.take k).length ≤ 8 := by simp; omega
  rw [hs] at ih
  unfold onB at ih
  generalize hasB held[k].fr held[k].to held[k].da day = bb at *
  by_cases hca : held[k].ca = ca
  ·rw [decide_eq_true hca, Bool.true_and] at ih
   cases bb
   ·rw [if_neg (by decide), Int.add_zero] at ih
    repeat' ((conv => whnf); first
    | refine Yz ?_
     | (refine PickW.rec Rqt.cells_length k rfl hlt ?_)
     | (refine Cmp.tt hca ?_)
     | (apply CallI.of; assumption)
     | (refine LoopW.to ih rfl rfl)
     | fail)
   ·rw [if_pos rfl] at ih
    repeat' ((conv => whnf); first
    | refine Yz ?_
     | (refine PickW.rec Rqt.cells_length k rfl hlt ?_)
     | (refine Cmp.tt hca ?_)
     | (apply CallI.of; assumption)
     | (refine LoopW.to ih rfl rfl)
     | fail)
  ·rw [decide_eq_false hca, Bool.false_and, if_neg (by decide), Int.add_zero] at ih
   repeat' ((conv => whnf); first
   | refine Yz ?_
    | (refine PickW.rec Rqt.cells_length k rfl hlt ?_)
    | (refine Cmp.ff hca ?_)
    | (refine LoopW.to ih rfl rfl)
    | fail)
 ·obtain rfl : k = held.length := by omega
  rw [List.take_length]
  repeat' ((conv => whnf); first
  | refine Yz ?_
   | (exact hK)
   | fail)
set_option maxHeartbeats 16000000 in
theorem w_TopChockNewcomers (held : List Rqt) (l : List Clm) (a b c : Int) (hL : l.length ≤ 9223372036854775807) (ha : 0 ≤ a ∧ a ≤ 255) (hb : 0 ≤ b ∧ b ≤ 255) (hc : 0 ≤ c ∧ c ≤ 255) :
  Fc E n_top_TopChockNewcomers [LQ held, LM l, .d (.agg [.int .u8 a, .int .u8 b, .int .u8 c])] (B true) := by
 have ru := s_chockRules g
 have rd := r_Default g
 obtain ⟨f1, f2⟩ := s_chockFair g l hL
 refine g.fn rfl rfl ?_
 by_cases h8 : held.length ≤ 8
 ·have q1 := r_CheckRequests g held (by omega)
  by_cases hz : chkRqs held = 0
  ·rw [hz] at q1
   by_cases hf : fairB l
   ·have f1 := f1 hf
    obtain ⟨_, hu, hck⟩ := chkRqs_zero hz
    have m1 := ok_sentL hck (by omega)
    have ss := s_chockSent g held 100 (by omega)
    have hrq := reqs_sent hck hu (by omega)
    have sr := s_chockRead g [sentM held 100] (by simp) (by rw [hrq]; simp; omega) (fun m hm => by
     rw [List.mem_singleton.1 hm]
     have q := (msg_len m1).2
     have e : (sentM held 100).ls.length = held.length := by show (held.map nwn).length = _; rw [List.length_map]
     exact ⟨chkMs_ok.2 m1, by omega⟩)
    rw [hrq] at sr
    have e1 : ((held.map fun x => (⟨x, false, 100⟩ : Ent)).map (·.rq)) = held := by
     rw [List.map_map]
     exact List.map_id'' (fun _ => rfl) held
    dsimp only at sr
    rw [e1] at sr
    have ss : Fc E n_top_chockSent [LQ held, I 100] (.d (.agg [.str REQ, .str HERE, .str S2024, DI 100, .list (held.map nwn).length ((held.map nwn).flatMap Lnt.cells)])) := ss
    have sr : Fc E n_top_chockRead [.d (.list 1 [.str REQ, .str HERE, .str S2024, DI 100, .list (held.map nwn).length ((held.map nwn).flatMap Lnt.cells)])] (.tup [LQ held, B true]) := sr
    generalize (held.map nwn).flatMap Lnt.cells = cs at *
    generalize (held.map nwn).length = nc at *
    clear m1 hrq e1
    have hr : 0 ≤ a % 30 ∧ a % 30 < 30 := by omega
    repeat' ((conv => whnf); first
    | refine Yz ?_
     | (apply CallI.of; assumption)
     | fail)
    generalize hday : 8895 + a % 30 = day
    refine LoopW.to (LoopW.up g (fun j => [(0, LQ held), (1, LM l), (5, .ptr ⟨0, 5, 0⟩ 0 0), (7, LQ held), (9, I day), (65, cLst), (66, I 2), (67, I j)]) (fun _ => cMem a b c) 2 (fun j hj ih => ?_) 0 (by decide)) rfl rfl
    by_cases hj2 : j < 2
    ·have ih := ih hj2
     obtain ⟨ca, hca, hnm⟩ : ∃ ca, ([.str cAb, .str cCd] : List D)[(j : Int).toNat * 1]? = some (.str ca) ∧ isNameB ca = true := by
      match j, hj2 with
      | 0, _ => exact ⟨_, rfl, by decide⟩
      | 1, _ => exact ⟨_, rfl, by decide⟩
     have n1 := s_Newcomer_ok g ca day held (chkHeld_ok hnm (by omega) hz)
     have n2 := s_Newcomer_ok g ca day (held.take (held.length - 1)) (chkHeld_ok hnm (by omega) (chkRqs_take _ hz))
     have hmono : onN ca day (held.take (held.length - 1)) ≤ onN ca day held := (List.take_sublist _ _).countP_le
     have n2 : ∀ {n : Nat} {ds : List D}, n = held.length - 1 → ds = (held.take (held.length - 1)).flatMap Rqt.cells → Fc E n_priority_Newcomer [S ca, I day, .d (.list n ds)] (.tup [B (decide (onN ca day (held.take (held.length - 1)) < 5)), I 0]) := fun h1 h2 => by
      subst h1 h2
      have e : (held.take (held.length - 1)).length = held.length - 1 := by rw [List.length_take]; omega
      have n2 : Fc E n_priority_Newcomer [S ca, I day, .d (.list (held.take (held.length - 1)).length ((held.take (held.length - 1)).flatMap Rqt.cells))] (.tup [B (decide (onN ca day (held.take (held.length - 1)) < 5)), I 0]) := n2
      rwa [e] at n2
     have hcount := fun (K : Ex → Env → Mem → Prop) hK => cn_count (K := K) g held l ca day a b c j hck h8 (by omega) hK
     have ho := onN_le ca day held
     have hwin : win (held.flatMap Rqt.cells) (0 * 13) ((held.length - 1 - 0) * 13) = (held.take (held.length - 1)).flatMap Rqt.cells := by
      rw [Nat.zero_mul, Nat.sub_zero]
      exact win_takeG Rqt.cells 13 Rqt.cells_length held (held.length - 1) (by omega)
     clear sr ss f1 f2 rd
     generalize onN ca day (held.take (held.length - 1)) = N2 at *
     generalize onN ca day held = N at *
     have hb1 : ∃ b1 : Bool, decide (N < 5) = b1 ∧ (b1 = true ↔ N < 5) := ⟨_, rfl, decide_eq_true_iff⟩
     have hb2 : ∃ b2 : Bool, decide (N2 < 5) = b2 ∧ (b2 = true ↔ N2 < 5) := ⟨_, rfl, decide_eq_true_iff⟩
     obtain ⟨b1, e1, h1⟩ := hb1
     obtain ⟨b2, e2, h2⟩ := hb2
     rw [e1] at n1
     rw [e2] at n2
     by_cases h0 : held.length = 0
     all_goals cases b1
     all_goals cases b2
     all_goals simp only [reduceCtorEq, false_iff, true_iff] at h1 h2
     all_goals try (exfalso; omega)
     all_goals (repeat' ((conv => whnf); first
     | refine Yz ?_
      | (refine Pick.now hca ?_)
      | (refine hcount _ ?_)
      | (refine Bounds.at 0 (held.length - 1) (by omega) (by omega) (by omega) ?_)
      | (apply CallI.of; assumption)
      | (refine CallI.of (n2 (by omega) hwin) ?_)
      | (refine LoopW.to ih rfl rfl)
      | fail))
    ·obtain rfl : j = 2 := by omega
     clear ih sr ss f1 f2 rd hday q1
     have mr : 0 ≤ b % 4 ∧ b % 4 < 4 := by omega
     obtain ⟨m, hm⟩ : ∃ m, m = 1 + b % 4 := ⟨_, rfl⟩
     have fr : 0 ≤ c % (m + 1) ∧ c % (m + 1) < m + 1 := ⟨Int.emod_nonneg _ (by omega), Int.emod_lt_of_pos _ (by omega)⟩
     obtain ⟨fo, hfo⟩ : ∃ fo, fo = c % (m + 1) := ⟨_, rfl⟩
     have hpool : chkPool (dflP 0 m fo) = 0 := by
      show firstI [rng 0 0 4, rng m 1 100, rng fo 0 m] = 0
      rw [rng_zero.2 (by omega), rng_zero.2 (by omega), rng_zero.2 (by omega)]
      rfl
     have rk : chkRk (dflP 0 m fo) 9 l = 0 := by
      unfold chkRk
      rw [dfl_ok hpool, hf.2.2, rng_zero.2 (by omega)]
      rfl
     have h6 := hf.1
     obtain ⟨s, hsr⟩ := srt_ex (rk_tot rk)
     have p1 := s_Rank g rk (by omega) hsr
     have hO := rankL_ord (p := dflP 0 m fo) hsr.pm
     have hq := first_places (p := dflP 0 m fo) rfl hsr.pm
     have p2 := s_chockClaims g l (by omega)
     have p0 := s_Default g
     generalize rankL (dflP 0 m fo) l s = R at *
     have hRl := hO.len
     have p3 := r_IsOrder g l.length R hO (by omega)
     have p0 : Fc E n_priority_Default [] (.d (.agg [.list 4 (dflC.flatMap Cls.cells), DI 2, DI 2, DI 1])) := p0
     have p1 : Fc E n_priority_Rank [.d (.agg [.list 4 (dflC.flatMap Cls.cells), DI 0, DI m, DI fo]), I 9, LM l] (.tup [LI R, I 0]) := p1
     have hq : ∀ k : Nat, k ≤ l.length → gotN (fun i => (atC l i).ne) R k ≥ (l.countP (·.ne) : Nat) ∨ gotN (fun i => (atC l i).ne) R k ≥ dueN m fo k := hq
     generalize dflC.flatMap Cls.cells = dcs at *
     repeat' ((conv => whnf); first
     | refine Yz ?_
      | (apply CallI.of; assumption)
      | (rw [← hm])
      | (rw [← hfo])
      | fail)
     have hm1 : 1 ≤ m ∧ m ≤ 4 := by omega
     have hf1 : 0 ≤ fo ∧ fo ≤ 4 := by omega
     clear p0 p1 p2 p3 hpool rk hm hfo
     refine LoopW.to (LoopW.up g (fun k => [(1, LM l), (19, .ptr ⟨0, 19, 0⟩ 0 0), (20, LI R), (22, I ((l.take k).countP (·.ne) : Nat)), (166, LM l), (167, I l.length), (168, I k)]) (fun _ => cMem a b c ++ [(⟨0, 19, 0⟩, .cells ty_priority_Program [.d (.list 4 dcs), I 0, I m, I fo])]) l.length (fun k hk ih => ?_) 0 (Nat.zero_le _)) rfl rfl
     by_cases hlt : k < l.length
     ·have ih := ih hlt
      have hcn : ((l.take k).countP (·.ne)) ≤ (l.take k).length := List.countP_le_length
      have hlk : (l.take k).length = k := by rw [List.length_take]; omega
      have hs : (((l.take (k + 1)).countP (·.ne) : Nat) : Int) = ((l.take k).countP (·.ne) : Nat) + (if l[k].ne = true then 1 else 0) := by
       rw [List.take_add_one, List.getElem?_eq_getElem hlt, List.countP_append]
       show ((_ + List.countP (·.ne) [l[k]] : Nat) : Int) = _
       rw [List.countP_cons, List.countP_nil]
       split <;> simp
      rw [hs] at ih
      generalize hv : l[k].ne = v at *
      cases v
      ·rw [if_neg (by decide), Int.add_zero] at ih
       repeat' ((conv => whnf); first
       | refine Yz ?_
        | (refine PickW.rec Clm.cells_length k rfl hlt ?_)
        | (rw [hv])
        | (refine LoopW.to ih rfl rfl)
        | fail)
      ·rw [if_pos rfl] at ih
       repeat' ((conv => whnf); first
       | refine Yz ?_
        | (refine PickW.rec Clm.cells_length k rfl hlt ?_)
        | (rw [hv])
        | (refine LoopW.to ih rfl rfl)
        | fail)
     ·obtain rfl : k = l.length := by omega
      rw [List.take_length]
      clear ih
      have hal : l.countP (·.ne) ≤ l.length := List.countP_le_length
      generalize l.countP (·.ne) = al at *
      repeat' ((conv => whnf); first
      | refine Yz ?_
       | fail)
      refine LoopW.to (LoopW.up g (fun k => [(1, LM l), (19, .ptr ⟨0, 19, 0⟩ 0 0), (22, I al), (25, I (gotN (fun i => (atC l i).ne) R k)), (26, I (dueN m fo k)), (177, LI R), (178, I R.length), (179, I k)]) (fun _ => cMem a b c ++ [(⟨0, 19, 0⟩, .cells ty_priority_Program [.d (.list 4 dcs), I 0, I m, I fo])]) R.length (fun k hk ih => ?_) 0 (Nat.zero_le _)) rfl rfl
      by_cases hlt : k < R.length
      ·have ih := ih hlt
       have hk1 := hq (k + 1) (by omega)
       have hgs := gotN_succ (fun i => (atC l i).ne) hlt
       have hdu := due_le m fo k
       have hds : dueN m fo (k + 1) = dueN m fo k + if (k : Int) % m < fo then 1 else 0 := rfl
       have hgl : 0 ≤ gotN (fun i => (atC l i).ne) R k ∧ gotN (fun i => (atC l i).ne) R k ≤ k := by
        have : (R.take k).countP (fun i => (atC l i).ne) ≤ (R.take k).length := List.countP_le_length
        rw [List.length_take] at this
        unfold gotN
        omega
       have hrng := hO.rng k (by omega)
       have hgk : R.getD k 0 = R[k] := by rw [List.getD, List.getElem?_eq_getElem hlt]; rfl
       rw [hgk] at hrng
       obtain ⟨q, hqk⟩ : ∃ q : Nat, R[k] = q := ⟨R[k].toNat, by omega⟩
       rw [hqk] at hrng hgk hgs
       have hql : q < l.length := by omega
       have hat : atC l (q : Int) = l[q] := by rw [atC_get (by simpa using hql)]; rfl
       rw [hat] at hgs
       have hmod := Int.emod_nonneg (k : Int) (show m ≠ 0 by omega)
       rw [hgs, hds] at ih hk1
       generalize gotN (fun i => (atC l i).ne) R k = gt at *
       generalize dueN m fo k = du at *
       have hcell : l[q].cells[15]? = some (.bool l[q].ne) := rfl
       generalize l[q].ne = v at *
       have hmin : ∀ {x y : Int}, (x ≥ (al : Int) ∨ x ≥ y) → ¬ x < (if (al : Int) < y then (al : Int) else y) := fun h => by split <;> omega
       by_cases hw : (k : Int) % m < fo
       ·rw [if_pos hw] at ih hk1
        cases v
        ·rw [if_neg (by decide), Int.add_zero] at ih hk1
         repeat' ((conv => whnf); first
         | refine Yz ?_
          | (refine Pick.intI k rfl hlt ?_; rw [hqk])
          | (refine Pick.rec Clm.cells_length q rfl hql hcell ?_)
          | (refine Cmp.ff (hmin hk1) ?_)
          | (refine LoopW.to ih rfl rfl)
          | fail)
        ·rw [if_pos rfl] at ih hk1
         repeat' ((conv => whnf); first
         | refine Yz ?_
          | (refine Pick.intI k rfl hlt ?_; rw [hqk])
          | (refine Pick.rec Clm.cells_length q rfl hql hcell ?_)
          | (refine Cmp.ff (hmin hk1) ?_)
          | (refine LoopW.to ih rfl rfl)
          | fail)
       ·rw [if_neg hw, Int.add_zero] at ih hk1
        cases v
        ·rw [if_neg (by decide), Int.add_zero] at ih hk1
         repeat' ((conv => whnf); first
         | refine Yz ?_
          | (refine Pick.intI k rfl hlt ?_; rw [hqk])
          | (refine Pick.rec Clm.cells_length q rfl hql hcell ?_)
          | (refine Cmp.ff (hmin hk1) ?_)
          | (refine LoopW.to ih rfl rfl)
          | fail)
        ·rw [if_pos rfl] at ih hk1
         repeat' ((conv => whnf); first
         | refine Yz ?_
          | (refine Pick.intI k rfl hlt ?_; rw [hqk])
          | (refine Pick.rec Clm.cells_length q rfl hql hcell ?_)
          | (refine Cmp.ff (hmin hk1) ?_)
          | (refine LoopW.to ih rfl rfl)
          | fail)
      ·obtain rfl : k = R.length := by omega
       repeat' ((conv => whnf); first
       | refine Yz ?_
        | (apply CallI.of; assumption)
        | (exact Ret.mk rfl)
        | fail)
   ·have f2 := f2 hf
    repeat' ((conv => whnf); first
    | refine Yz ?_
     | (apply CallI.of; assumption)
     | (exact Ret.mk rfl)
     | fail)
  ·repeat' ((conv => whnf); first
  | refine Yz ?_
    | (apply CallI.of; assumption)
    | (refine Cmp.ff hz ?_)
    | (exact Ret.mk rfl)
    | fail)
 ·repeat' ((conv => whnf); first
 | refine Yz ?_
   | (apply CallI.of; assumption)
   | (exact Ret.mk rfl)
   | fail)
end
theorem s_TopChockNewcomers {E : Oracle} (g : Good E) {xs : List D} (h : fitArgs Tryz.prog [22, 23, 24] xs) : Fc E n_top_TopChockNewcomers (asV xs) (B true) := by
 obtain ⟨x, y, z, rfl, h1, h2, h3⟩ := args3 h
 obtain ⟨held, rfl⟩ := arg_Requests h1
 obtain ⟨l, rfl, hl⟩ := arg_Claims h2
 obtain ⟨ds, rfl, _, _, rfl, h4, _, _, rfl, h5, _, _, rfl, h6, rfl⟩ := arg_ar Tryz.underlying24 h3
 obtain ⟨a, rfl, wa⟩ := fit_i Tryz.underlying5 h4
 obtain ⟨b, rfl, wb⟩ := fit_i Tryz.underlying5 h5
 obtain ⟨c, rfl, wc⟩ := fit_i Tryz.underlying5 h6
 simp only [Lit.wf, Bool.and_eq_true, decide_eq_true_eq] at wa wb wc
 exact w_TopChockNewcomers g held l a b c hl wa wb wc
end Go.Proofs.YtlnlcdnpgjhaaacGreatDoor.Co
