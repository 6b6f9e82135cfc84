
/-
  What a call leaves behind, seen from the caller: memory cut down, objects moved, rows sealed.
-/
import Derived.Test.YtlboecjgelnabaaGreatDoorEvSeven
namespace Go.Evl
open Go.RowKit

section
variable {P : Program} {oc : Codes} {gl : Globs}

theorem Ext.of_look {s s' : S} (h : Ext (fun i => look s.m i ≠ none) s s') : Ext (fun _ => True) s s' :=
  ⟨h.os, h.tape, h.output, h.size, h.frame, h.imnew, h.im, h.keep, fun i o _ ho => h.objs i o (by rw [ho]; simp) ho⟩

theorem idsAll_look : ∀ (m : Mem) (i : Id) (o : Ob) (j : Id), look m i = some o → j ∈ idsO o → j ∈ idsAll m
  | [], i, o, j, h, _ => by simp [look] at h
  | (a, x) :: r, i, o, j, h, hj => by
    simp only [look] at h
    split at h
    · obtain rfl := Option.some.inj h; simp [idsAll, hj]
    · simp [idsAll, idsAll_look r i o j h hj]

theorem look_filter (p : Id → Bool) : ∀ (m : Mem) (i : Id), look (m.filter fun q => p q.1) i = if p i then look m i else none
  | [], i => by simp [look]
  | (j, x) :: r, i => by
    have ih := look_filter p r i
    rw [List.filter_cons]
    by_cases hj : p j = true
    · simp only [hj, if_true, look]
      by_cases e : j = i
      · subst e; simp [hj]
      · simp only [e, if_false]; exact ih
    · simp only [hj]
      by_cases e : j = i
      · subst e; simp only [look, if_true]; simpa [hj] using ih
      · simp only [look, e, if_false]; exact ih

theorem idsAll_filter (p : Id × Ob → Bool) : ∀ (m : Mem) (j : Id), j ∈ idsAll (m.filter p) → j ∈ idsAll m
  | [], j, h => h
  | (a, x) :: r, j, h => by
    rw [List.filter_cons] at h
    split at h
    · simp only [idsAll, List.mem_append] at h ⊢
      exact h.imp id (idsAll_filter p r j)
    · simp only [idsAll, List.mem_append]
      exact .inr (idsAll_filter p r j h)

/-- Memory cut down to some of its objects, which name no others. -/
theorem Sim.sub {s : S} (hs : Sim oc gl s) (p : Id → Bool) (hp : ∀ i ∈ idsAll (s.m.filter fun q => p q.1), p i = true) :
    Sim oc gl ⟨s.φ, s.m.filter fun q => p q.1, s.w, s.Im⟩ ∧ Ext (fun i => p i = true) s ⟨s.φ, s.m.filter fun q => p q.1, s.w, s.Im⟩ := by
  have some_of : ∀ i o, look (s.m.filter fun q => p q.1) i = some o → look s.m i = some o := fun i o h => by
    rw [look_filter] at h; split at h
    · exact h
    · cases h
  have hE : Ext (fun i => p i = true) s ⟨s.φ, s.m.filter fun q => p q.1, s.w, s.Im⟩ :=
    ⟨rfl, rfl, rfl, Nat.le_refl _, fun b _ hf => ⟨rfl, fun i o hi hg => hf i o (some_of i o hi) hg⟩, fun _ _ h => .inl h, fun _ _ h => h, fun _ _ _ => rfl,
      fun i o hi ho => ⟨o, by rw [look_filter, hi]; exact ho, Turned.refl _ _⟩⟩
  exact ⟨⟨fun i o h => ObR.ext0 hE.to0 (fun j hj => hp j (idsAll_look _ _ _ _ h hj)) (fun _ _ => ⟨rfl, fun _ h => h⟩) (hs.objs i o (some_of i o h)),
    fun i j o o' b hij hi hj => hs.apart i j o o' b hij (some_of i o hi) (some_of j o' hj), hs.imlt, hs.glob, hs.tabs.ext hE⟩, hE⟩

/-! ### Numbers for what moves -/

theorem num_mem (cx : Cx) (slot : Nat) : ∀ (is : List Id) (k : Nat) (a b : Id), (a, b) ∈ number cx slot k is → a ∈ is ∧ b.lv = cx.lv ∧ b.slot = slot ∧ k ≤ b.k
  | [], _, _, _, h => by simp [number] at h
  | i :: r, k, a, b, h => by
    simp only [number, List.mem_cons, Prod.mk.injEq] at h
    rcases h with ⟨rfl, rfl⟩ | h
    · exact ⟨by simp, rfl, rfl, Nat.le_refl _⟩
    · obtain ⟨h1, h2, h3, h4⟩ := num_mem cx slot r (k + 1) a b h
      exact ⟨by simp [h1], h2, h3, by omega⟩

theorem num_inj (cx : Cx) (slot : Nat) : ∀ (is : List Id) (k : Nat) (a a' b : Id), (a, b) ∈ number cx slot k is → (a', b) ∈ number cx slot k is → a = a'
  | [], _, _, _, _, h, _ => by simp [number] at h
  | i :: r, k, a, a', b, h, h' => by
    simp only [number, List.mem_cons, Prod.mk.injEq] at h h'
    rcases h with ⟨rfl, rfl⟩ | h
    · rcases h' with ⟨rfl, _⟩ | h'
      · rfl
      · have := (num_mem cx slot r (k + 1) _ _ h').2.2.2
        exact absurd this (Nat.not_succ_le_self k)
    · rcases h' with ⟨rfl, rfl⟩ | h'
      · have := (num_mem cx slot r (k + 1) _ _ h).2.2.2
        exact absurd this (Nat.not_succ_le_self k)
      · exact num_inj cx slot r (k + 1) a a' b h h'

theorem num_subst (cx : Cx) (slot : Nat) : ∀ (is : List Id) (k : Nat) (i : Id), i ∈ is → (i, subst (number cx slot k is) i) ∈ number cx slot k is
  | [], _, _, h => by simp at h
  | j :: r, k, i, h => by
    simp only [number, subst]
    by_cases e : j = i
    · subst e; simp
    · simp only [e, if_false]
      have : i ∈ r := by simpa [Ne.symm e] using h
      exact List.mem_cons_of_mem _ (num_subst cx slot r (k + 1) i this)

theorem num_only (cx : Cx) (slot : Nat) : ∀ (is : List Id) (k : Nat) (a b : Id), onceB is = true → (a, b) ∈ number cx slot k is → b = subst (number cx slot k is) a
  | [], _, _, _, _, h => by simp [number] at h
  | j :: r, k, a, b, ho, h => by
    simp only [onceB, Bool.and_eq_true, Bool.not_eq_true', List.elem_eq_mem, decide_eq_false_iff_not] at ho
    simp only [number, List.mem_cons, Prod.mk.injEq] at h
    simp only [number, subst]
    rcases h with ⟨rfl, rfl⟩ | h
    · simp
    · have ha := (num_mem cx slot r (k + 1) a b h).1
      have e : j ≠ a := fun e => ho.1 (e ▸ ha)
      simp only [e, if_false]
      exact num_only cx slot r (k + 1) a b ho.2 h

theorem subst_none (cx : Cx) (slot : Nat) : ∀ (is : List Id) (k : Nat) (i : Id), i ∉ is → subst (number cx slot k is) i = i
  | [], _, _, _ => rfl
  | j :: r, k, i, h => by
    simp only [List.mem_cons, not_or] at h
    simp only [number, subst, Ne.symm h.1, if_false]
    exact subst_none cx slot r (k + 1) i h.2

theorem moved_some (σ : List (Id × Id)) (m : Mem) : ∀ (l : List (Id × Id)) (b : Id) (o : Ob), look (moved σ m l) b = some o → ∃ a o', (a, b) ∈ l ∧ look m a = some o' ∧ o = renO σ o'
  | [], b, o, h => by simp [moved, look] at h
  | (a, c) :: r, b, o, h => by
    simp only [moved] at h
    split at h
    · rename_i o' ho
      simp only [look] at h
      split at h
      · rename_i e; subst e
        exact ⟨a, o', by simp, ho, (Option.some.inj h).symm⟩
      · obtain ⟨a', o2, h1, h2, h3⟩ := moved_some σ m r b o h
        exact ⟨a', o2, by simp [h1], h2, h3⟩
    · obtain ⟨a', o2, h1, h2, h3⟩ := moved_some σ m r b o h
      exact ⟨a', o2, by simp [h1], h2, h3⟩

theorem moved_look (σ : List (Id × Id)) (m : Mem) : ∀ (l : List (Id × Id)) (a b : Id) (o : Ob), (∀ a' , (a', b) ∈ l → a' = a) → (a, b) ∈ l → look m a = some o → look (moved σ m l) b = some (renO σ o)
  | [], _, _, _, _, h, _ => by simp at h
  | (a', c) :: r, a, b, o, hu, h, ho => by
    simp only [moved]
    by_cases e : c = b
    · subst e
      obtain rfl := hu a' (by simp)
      simp [ho, look]
    · have h' : (a, b) ∈ r := by
        simp only [List.mem_cons, Prod.mk.injEq] at h
        rcases h with ⟨_, h⟩ | h
        · exact absurd h.symm e
        · exact h
      have ih := moved_look σ m r a b o (fun a' ha => hu a' (by simp [ha])) h' ho
      split
      · simp only [look, e, if_false]; exact ih
      · exact ih

theorem look_append : ∀ (a b : Mem) (i : Id), look (a ++ b) i = (look a i).or (look b i)
  | [], b, i => by simp [look]
  | (j, x) :: r, b, i => by
    simp only [List.cons_append, look]
    split
    · rfl
    · exact look_append r b i

/-! ### Values under new names -/

structure Ren (σ : List (Id × Id)) (K : Id → Prop) (s s' : S) : Prop where
  im : ∀ b j, s.Im b j → s'.Im b j
  keep : ∀ b j, s.Im b j → s'.w.cell? ⟨b, j, none⟩ = s.w.cell? ⟨b, j, none⟩
  objs : ∀ i o, K i → look s.m i = some o → ∃ o', look s'.m (subst σ i) = some o' ∧ Turned o o' (s.φ i) (s'.φ (subst σ i))

section
variable {σ : List (Id × Id)} {K : Id → Prop} {s s' : S}
mutual
theorem VR.ren (h : Ren σ K s s') : ∀ (v : V) (x : Value), (∀ i ∈ ids v, K i) → VR s v x → VR s' (ren σ v) x
  | .d d, x, _, hv => by simp only [VR, Evl.ren] at hv ⊢; exact DR.ext h.im h.keep d x hv
  | .agg cs, x, hk, hv => by
    simp only [VR, Evl.ren] at hv ⊢
    obtain ⟨xs, hx, hv⟩ := hv
    exact ⟨xs, hx, VRs.ren h cs _ (by simpa only [ids] using hk) hv⟩
  | .tup cs, x, hk, hv => by
    simp only [VR, Evl.ren] at hv ⊢
    obtain ⟨xs, hx, hv⟩ := hv
    exact ⟨xs, hx, VRt.ren h cs _ (by simpa only [ids] using hk) hv⟩
  | .ref o a b c, x, hk, hv => by
    simp only [VR, Evl.ren] at hv ⊢
    obtain ⟨h1, hv⟩ := hv
    obtain ⟨ob, ho⟩ := hv.some
    obtain ⟨ob', ho', t⟩ := h.objs o ob (hk o (by simp [ids])) ho
    rw [ho] at hv; rw [ho']; exact ⟨h1, hv.turned t⟩
  | .ptr o a b, x, hk, hv => by
    simp only [VR, Evl.ren] at hv ⊢
    obtain ⟨h1, hv⟩ := hv
    obtain ⟨ob, ho⟩ := hv.some
    obtain ⟨ob', ho', t⟩ := h.objs o ob (hk o (by simp [ids])) ho
    rw [ho] at hv; rw [ho']; exact ⟨h1, hv.turned t⟩
  | .lptr cs off, x, _, hv => by
    simp only [VR, Evl.ren] at hv ⊢
    obtain ⟨b, o, hx, hv⟩ := hv
    exact ⟨b, o, hx, CR.ext h.im h.keep b o cs hv⟩
  | .fn f a b, x, hk, hv => by
    simp only [VR, Evl.ren] at hv ⊢
    obtain ⟨xs, ys, hx, h1, h2⟩ := hv
    exact ⟨xs, ys, hx, VRt.ren h a _ (fun i hi => hk i (by simp [ids, hi])) h1, VRt.ren h b _ (fun i hi => hk i (by simp [ids, hi])) h2⟩
  | .yld o, x, hk, hv => by
    simp only [VR, Evl.ren] at hv ⊢
    obtain ⟨h1, hv⟩ := hv
    obtain ⟨ob, ho⟩ := hv.some
    obtain ⟨ob', ho', t⟩ := h.objs o ob (hk o (by simp [ids])) ho
    rw [ho] at hv; rw [ho']; exact ⟨h1, hv.turned t⟩
  | .mp o, x, hk, hv => by
    simp only [VR, Evl.ren] at hv ⊢
    obtain ⟨h1, hv⟩ := hv
    obtain ⟨ob, ho⟩ := hv.some
    obtain ⟨ob', ho', t⟩ := h.objs o ob (hk o (by simp [ids])) ho
    rw [ho] at hv; rw [ho']; exact ⟨h1, hv.turned t⟩
  | .it o, x, hk, hv => by
    simp only [VR, Evl.ren] at hv ⊢
    obtain ⟨h1, hv⟩ := hv
    obtain ⟨ob, ho⟩ := hv.some
    obtain ⟨ob', ho', t⟩ := h.objs o ob (hk o (by simp [ids])) ho
    rw [ho] at hv; rw [ho']; exact ⟨h1, hv.turned t⟩
  | .skip, x, _, hv => by simpa only [VR, Evl.ren] using hv
  | .undef, x, _, _ => by simp only [VR, Evl.ren]
theorem VRs.ren (h : Ren σ K s s') : ∀ (cs : List V) (xs : List Value), (∀ i ∈ idsL cs, K i) → VRs s cs xs → VRs s' (renL σ cs) xs
  | [], _, _, hv => by simpa only [VRs, renL] using hv
  | d :: r, xs, hk, hv => by
    simp only [VRs, renL] at hv ⊢
    obtain ⟨x, ys, h1, h2, h3, h4⟩ := hv
    exact ⟨x, ys, h1, h2, VR.ren h d x (fun i hi => hk i (by simp [idsL, hi])) h3, VRs.ren h r ys (fun i hi => hk i (by simp [idsL, hi])) h4⟩
theorem VRt.ren (h : Ren σ K s s') : ∀ (cs : List V) (xs : List Value), (∀ i ∈ idsL cs, K i) → VRt s cs xs → VRt s' (renL σ cs) xs
  | [], _, _, hv => by simpa only [VRt, renL] using hv
  | d :: r, xs, hk, hv => by
    simp only [VRt, renL] at hv ⊢
    obtain ⟨x, ys, h1, h3, h4⟩ := hv
    exact ⟨x, ys, h1, VR.ren h d x (fun i hi => hk i (by simp [idsL, hi])) h3, VRt.ren h r ys (fun i hi => hk i (by simp [idsL, hi])) h4⟩
end

theorem MapR.ren (h : Ren σ K s s') : ∀ (es : List (D × V)) (q : List MapEntry), (∀ i ∈ idsM es, K i) → MapR s es q → MapR s' (renM σ es) q
  | [], _, _, hm => hm
  | (k, v) :: r, _, hk, hm => by
    obtain ⟨e, q, hq, h1, h2, h3, h4⟩ := hm
    exact ⟨e, q, hq, h1, DR.ext h.im h.keep k _ h2, VR.ren h v _ (fun i hi => hk i (by simp [idsM, hi])) h3, MapR.ren h r q (fun i hi => hk i (by simp [idsM, hi])) h4⟩

theorem renL_length (σ : List (Id × Id)) : ∀ (cs : List V), (renL σ cs).length = cs.length
  | [] => rfl
  | _ :: r => by simp [renL, renL_length σ r]

theorem Turned.renO (σ : List (Id × Id)) (o : Ob) (p : Value) : Turned o (renO σ o) p p := by
  cases o <;> simp [Turned, Evl.renO, renL_length]

theorem ObR.ren (h : Ren σ K s s') {p : Value} {o : Ob} (hk : ∀ i ∈ idsO o, K i) (hl : isLoop o = false) (hb : ∀ b, blk p = some b → s'.w.heap[b]? = s.w.heap[b]? ∧ ∀ j, s'.Im b j → s.Im b j)
    (ho : ObR oc s p o) : ObR oc s' p (renO σ o) := by
  cases o with
  | cells t cs =>
    obtain ⟨b, xs, rfl, hh, hv, hi⟩ := ho
    obtain ⟨h1, h2⟩ := hb b rfl
    exact ⟨b, xs, rfl, h1.trans hh, VRs.ren h cs _ hk hv, fun j hj => hi j (h2 j hj)⟩
  | row wr t sz n ds =>
    obtain ⟨hz, xs, hown, hd, hi⟩ := ho
    refine ⟨hz, xs, ?_, DRs.ext h.im h.keep ds xs hd, fun b hbb j => ?_⟩
    · refine ⟨hown.1, ?_⟩
      rcases hown.2 with hn | ⟨g, cap, cur, rfl, h0, hh, rest⟩
      · exact .inl hn
      · exact .inr ⟨g, cap, cur, rfl, h0, (hb g rfl).1.trans hh, rest⟩
    · obtain ⟨h1, h2⟩ := hb b (blk_own _ _ hbb)
      exact ⟨fun hj => (hi b hbb j).1 (h2 j hj), fun hj => h.im _ _ ((hi b hbb j).2 hj)⟩
  | map es =>
    obtain ⟨b, ces, cl, rfl, hh, hm⟩ := ho
    exact ⟨b, ces, cl, rfl, (hb b rfl).1.trans hh, MapR.ren h es _ hk hm⟩
  | iter str pos =>
    obtain ⟨b, rfl, hh⟩ := ho
    exact ⟨b, rfl, (hb b rfl).1.trans hh⟩
  | loop e ps a c lv bu ov j => simp [isLoop] at hl
  | gone => trivial
end

/-! ### From the callee's end to the caller's -/

/-- 's': where the call began, as the caller sees it; 's1': its end, as the callee sees it; 'sB': what the caller keeps of it; objects of level 'lo' and above are the callee's. -/
structure Back (oc : Codes) (gl : Globs) (lo : Nat) (s s1 sB : S) : Prop where
  sim1 : Sim oc gl s1
  sim : Sim oc gl sB
  ext : Ext (fun _ => True) s sB
  w : sB.w = s1.w
  im : sB.Im = s1.Im
  new : ∀ i o b, look s1.m i = some o → o ≠ .gone → lo ≤ i.lv → blk (s1.φ i) = some b → (s.w.heap.size ≤ b ∨ ¬ Free s b) ∧ ∀ j o', look sB.m j = some o' → o' ≠ .gone → blk (sB.φ j) ≠ some b
  low : ∀ i, i.lv < lo → look sB.m i = look s1.m i ∧ sB.φ i = s1.φ i

theorem settle_ok {lo : Nat} {s s1 sB : S} (hB : Back oc gl lo s s1 sB) {cx : Cx} {slot : Nat} {v v' : V} {m' : Mem} {x : Value} (h : settle cx slot lo sB.m s1.m v = some (v', m')) (hv : VR s1 v x) :
    ∃ s', s'.w = s1.w ∧ Sim oc gl s' ∧ Ext (fun _ => True) s s' ∧ s'.m = m' ∧ VR s' v' x := by
  unfold settle at h
  simp only at h
  generalize reach lo s1.m 64 (ids v) [] = is at h
  split at h <;> try cases h
  rename_i hc
  simp only [Bool.and_eq_true] at hc
  obtain ⟨hw, hmv⟩ := hc
  simp only [movable, Bool.and_eq_true, List.all_eq_true] at hmv
  obtain ⟨honce, hall⟩ := hmv
  obtain ⟨k, hk⟩ : ∃ k, k = freeK cx.lv slot sB.m := ⟨_, rfl⟩
  rw [← hk]
  obtain ⟨σ, hσ⟩ : ∃ σ, σ = number cx slot k is := ⟨_, rfl⟩
  rw [← hσ]
  have fresh : ∀ a b, (a, b) ∈ σ → look sB.m b = none := by
    intro a b hab
    subst hσ
    obtain ⟨_, h1, h2, h3⟩ := num_mem cx slot is k a b hab
    cases hl : look sB.m b with
    | none => rfl
    | some o => exact absurd (freeK_lt cx.lv slot _ _ o hl h1 h2) (by omega)
  have inj : ∀ a a' b, (a, b) ∈ σ → (a', b) ∈ σ → a = a' := by subst hσ; exact num_inj cx slot is k
  have isin : ∀ a b, (a, b) ∈ σ → a ∈ is := by subst hσ; exact fun a b h => (num_mem cx slot is k a b h).1
  have sub : ∀ i ∈ is, (i, subst σ i) ∈ σ := by subst hσ; exact num_subst cx slot is k
  have only : ∀ a b, (a, b) ∈ σ → b = subst σ a := by subst hσ; exact fun a b => num_only cx slot is k a b honce
  have stay : ∀ i, i ∉ is → subst σ i = i := by subst hσ; exact subst_none cx slot is k
  have obj : ∀ i ∈ is, ∃ o, look s1.m i = some o ∧ (∀ j ∈ idsO o, j ∈ is ∨ j.lv < lo) ∧ isLoop o = false ∧ lo ≤ i.lv := by
    intro i hi
    have := hall i hi
    split at this
    · rename_i o ho
      simp only [Bool.and_eq_true, within, List.all_eq_true, Bool.or_eq_true, List.elem_eq_mem, decide_eq_true_eq, Bool.not_eq_true'] at this
      exact ⟨o, ho, this.1.1, this.1.2, this.2⟩
    · cases this
  have hids : ∀ i ∈ ids v, i ∈ is ∨ i.lv < lo := by
    simpa only [within, List.all_eq_true, Bool.or_eq_true, List.elem_eq_mem, decide_eq_true_eq] using hw
  let φ' : Id → Value := fun i => match σ.find? (fun p => decide (p.2 = i)) with
    | some p => s1.φ p.1
    | none => sB.φ i
  have φnew : ∀ a b, (a, b) ∈ σ → φ' b = s1.φ a := by
    intro a b hab
    show (match σ.find? (fun p => decide (p.2 = b)) with | some p => s1.φ p.1 | none => sB.φ b) = _
    cases hf : σ.find? (fun p => decide (p.2 = b)) with
    | none => exact absurd (List.find?_eq_none.1 hf _ hab) (by simp)
    | some p =>
      have h1 := List.find?_some hf
      have h2 := List.mem_of_find?_eq_some hf
      simp only [decide_eq_true_eq] at h1
      obtain ⟨p1, p2⟩ := p
      simp only at h1
      subst h1
      simp only
      rw [inj p1 a p2 h2 hab]
  have φold : ∀ i, look sB.m i ≠ none → φ' i = sB.φ i := by
    intro i hi
    show (match σ.find? (fun p => decide (p.2 = i)) with | some p => s1.φ p.1 | none => sB.φ i) = _
    cases hf : σ.find? (fun p => decide (p.2 = i)) with
    | none => rfl
    | some p =>
      have h1 := List.find?_some hf
      have h2 := List.mem_of_find?_eq_some hf
      simp only [decide_eq_true_eq] at h1
      obtain ⟨p1, p2⟩ := p
      simp only at h1
      subst h1
      exact absurd (fresh _ _ h2) hi
  let s' : S := ⟨φ', sB.m ++ moved σ s1.m σ, s1.w, s1.Im⟩
  have lold : ∀ i o, look sB.m i = some o → look s'.m i = some o := by
    intro i o hi
    show look (sB.m ++ _) i = _
    rw [look_append, hi]; rfl
  have lnew : ∀ a b o, (a, b) ∈ σ → look s1.m a = some o → look s'.m b = some (renO σ o) := by
    intro a b o hab ho
    show look (sB.m ++ _) b = _
    rw [look_append, fresh a b hab, moved_look σ s1.m σ a b o (fun a' h => inj a' a b h hab) hab ho]
    rfl
  have lany : ∀ i o, look s'.m i = some o → look sB.m i = some o ∨ ∃ a o', (a, i) ∈ σ ∧ look s1.m a = some o' ∧ o = renO σ o' := by
    intro i o hi
    have hi : look (sB.m ++ moved σ s1.m σ) i = some o := hi
    rw [look_append] at hi
    cases hl : look sB.m i with
    | some o' => rw [hl] at hi; exact .inl hi
    | none => rw [hl] at hi; exact .inr (moved_some σ s1.m σ i o hi)
  have hren : Ren σ (fun i => i ∈ is ∨ i.lv < lo) s1 s' := by
    refine ⟨fun _ _ h => h, fun _ _ _ => rfl, fun i o hi ho => ?_⟩
    by_cases hmem : i ∈ is
    · have hab := sub i hmem
      refine ⟨_, lnew i _ o hab ho, ?_⟩
      show Turned o _ (s1.φ i) (φ' (subst σ i))
      rw [φnew _ _ hab]
      exact Turned.renO σ o _
    · have hlow := hi.resolve_left hmem
      rw [stay i hmem]
      obtain ⟨h1, h2⟩ := hB.low i hlow
      refine ⟨o, lold i o (h1.trans ho), ?_⟩
      show Turned o o (s1.φ i) (φ' i)
      rw [φold i (by rw [h1, ho]; simp), h2]
      exact Turned.refl _ _
  have hkeep : Ext0 (fun _ => True) sB s' := by
    refine ⟨fun b j h => by rw [hB.im] at h; exact h, fun b j _ => by rw [hB.w], fun i o _ ho => ⟨o, lold i o ho, ?_⟩⟩
    show Turned o o (sB.φ i) (φ' i)
    rw [φold i (by rw [ho]; simp)]
    exact Turned.refl _ _
  have apart1 : ∀ i o a o' b, look sB.m i = some o → o ≠ .gone → look s1.m a = some o' → o' ≠ .gone → a ∈ is → blk (sB.φ i) = some b → blk (s1.φ a) ≠ some b := by
    intro i o a o' b hi hg ha hga hais hb h2
    obtain ⟨_, _, _, _, hlo⟩ := obj a hais
    exact (hB.new a o' b ha hga hlo h2).2 i o hi hg hb
  have ngone : ∀ o, renO σ o ≠ .gone → o ≠ .gone := fun o h e => h (by rw [e]; rfl)
  refine ⟨s', rfl, ⟨fun i o hi => ?_, fun i j o o' b hij hi hj hg hg' hb => ?_, hB.sim1.imlt, hB.sim1.glob, fun g cs hg => ?_⟩, ?_, rfl, VR.ren hren v x hids hv⟩
  · rcases lany i o hi with hi | ⟨a, o', hab, ho', rfl⟩
    · show ObR oc s' (φ' i) o
      rw [φold i (by rw [hi]; simp)]
      exact ObR.ext0 hkeep (fun _ _ => trivial) (fun b _ => ⟨by rw [hB.w], fun j h => by rw [hB.im]; exact h⟩) (hB.sim.objs i o hi)
    · show ObR oc s' (φ' i) _
      rw [φnew a i hab]
      obtain ⟨o2, h1, h2, h3, _⟩ := obj a (isin a i hab)
      rw [ho'] at h1
      obtain rfl := Option.some.inj h1
      exact ObR.ren hren h2 h3 (fun b _ => ⟨rfl, fun _ h => h⟩) (hB.sim1.objs a _ ho')
  · show blk (φ' j) ≠ some b
    have hb : blk (φ' i) = some b := hb
    rcases lany i o hi with hi | ⟨a, o1, hab, ho1, rfl⟩
    · rw [φold i (by rw [hi]; simp)] at hb
      rcases lany j o' hj with hj | ⟨a', o2, hab', ho2, rfl⟩
      · rw [φold j (by rw [hj]; simp)]
        exact hB.sim.apart i j o o' b hij hi hj hg hg' hb
      · rw [φnew a' j hab']
        exact apart1 i o a' o2 b hi hg ho2 (ngone _ hg') (isin _ _ hab') hb
    · rw [φnew a i hab] at hb
      rcases lany j o' hj with hj | ⟨a', o2, hab', ho2, rfl⟩
      · rw [φold j (by rw [hj]; simp)]
        exact fun h => apart1 j o' a o1 b hj hg' ho1 (ngone _ hg) (isin _ _ hab) h hb
      · rw [φnew a' j hab']
        refine hB.sim1.apart a a' o1 o2 b (fun e => hij ?_) ho1 ho2 (ngone _ hg) (ngone _ hg') hb
        subst e
        rw [only _ _ hab, only _ _ hab']
  · obtain ⟨h1, h2, arr, t, fz, h3, h4⟩ := hB.sim1.tabs g cs hg
    refine ⟨fun i o hi hgo => ?_, h2, arr, t, fz, h3, h4⟩
    show blk (φ' i) ≠ some g
    rcases lany i o hi with hi | ⟨a, o', hab, ho', rfl⟩
    · rw [φold i (by rw [hi]; simp)]
      exact (hB.sim.tabs g cs hg).1 i o hi hgo
    · rw [φnew a i hab]
      exact h1 a o' ho' (ngone _ hgo)
  · have hE := hB.ext
    have hw : s'.w = sB.w := hB.w.symm
    refine ⟨by rw [hw]; exact hE.os, by rw [hw]; exact hE.tape, by rw [hw]; exact hE.output, by rw [hw]; exact hE.size, fun b hb hf => ?_, fun b j h => hE.imnew b j (by rw [hB.im]; exact h), fun b j h => by have := hE.im b j h; rw [hB.im] at this; exact this,
      fun b j h => by rw [hw]; exact hE.keep b j h, fun i o _ ho => ?_⟩
    · obtain ⟨h1, h2⟩ := hE.frame b hb hf
      refine ⟨by rw [hw]; exact h1, fun i o hi hg => ?_⟩
      show blk (φ' i) ≠ some b
      rcases lany i o hi with hi | ⟨a, o1, hab, ho1, rfl⟩
      · rw [φold i (by rw [hi]; simp)]
        exact h2 i o hi hg
      · rw [φnew a i hab]
        intro hb'
        obtain ⟨_, _, _, _, hlo⟩ := obj a (isin a i hab)
        rcases (hB.new a o1 b ho1 (ngone _ hg) hlo hb').1 with h3 | h3
        · omega
        · exact h3 hf
    · obtain ⟨o', ho', t⟩ := hE.objs i o trivial ho
      refine ⟨o', lold i o' ho', ?_⟩
      show Turned o o' (s.φ i) (φ' i)
      rw [φold i (by rw [ho']; simp)]
      exact t

end
end Go.Evl

