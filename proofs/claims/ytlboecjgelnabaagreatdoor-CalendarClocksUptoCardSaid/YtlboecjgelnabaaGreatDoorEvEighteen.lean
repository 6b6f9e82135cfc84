
/-
  One step of the evaluator is sound; and so all of them.
-/
import Derived.Test.YtlboecjgelnabaaGreatDoorEvSeventeen
namespace Go.Evl
open Go.RowKit

section
variable {P : Program} {gl : Globs}

theorem gc1_ok {oc : Codes} {s : S} (hs : Sim oc gl s) (keep : List Id) (e : Env) : Sim oc gl ⟨s.φ, gc1 keep e s.m, s.w, s.Im⟩ ∧ Ext (fun i => i ∈ keep ∨ i ∈ idsE e) s ⟨s.φ, gc1 keep e s.m, s.w, s.Im⟩ := by
  obtain ⟨k1, k2⟩ := hs.sub (fun i => keep.elem i || (idsE e).elem i || (idsAll s.m).elem i) (fun i hi => by
    have := idsAll_filter _ _ _ hi
    simp [this])
  exact ⟨k1, Ext.mono k2 fun i hi => by rcases hi with hi | hi <;> simp [hi]⟩

theorem gc_ok {oc : Codes} {s : S} (hs : Sim oc gl s) (keep : List Id) (e : Env) : Sim oc gl ⟨s.φ, gc keep e s.m, s.w, s.Im⟩ ∧ Ext (fun i => i ∈ keep ∨ i ∈ idsE e) s ⟨s.φ, gc keep e s.m, s.w, s.Im⟩ := by
  obtain ⟨a1, a2⟩ := gc1_ok hs keep e
  obtain ⟨b1, b2⟩ := gc1_ok a1 keep e
  obtain ⟨c1, c2⟩ := gc1_ok b1 keep e
  exact ⟨c1, Ext.trans a2 (Ext.trans b2 c2 (fun _ h => h)) (fun _ h => h)⟩

def okCF (P : Program) (gl : Globs) (f : Nat) (cf : CF) : Bool :=
  match P.funcs[f]? with
  | some fn =>
    match fn.body with
    | some code => fn.name != "runtime.NumGoroutine" && okC P gl fn.ntmps false cf.body code && okRVs P cf.results fn.results.toList
    | none => false
  | none => false

theorem params_env {s : S} : ∀ (vs : List V) (xs : List Value) (i : Nat), VRt s vs xs → ∀ t, VR s (get (params i vs) t) (if i ≤ t then xs.getD (t - i) undef else undef) ∨ get (params i vs) t = .undef
  | [], _, i, _, t => .inr rfl
  | v :: vs, _, i, ⟨x, ys, hx, h1, h2⟩, t => by
    subst hx
    simp only [params, get]
    by_cases e : i = t
    · subst e; simpa using Or.inl h1
    · simp only [e, if_false]
      rcases params_env vs ys (i + 1) h2 t with h | h
      · by_cases hlt : i + 1 ≤ t
        · left
          have h3 : t - i = (t - (i + 1)) + 1 := by omega
          simp only [hlt, if_true] at h
          have h4 : i ≤ t := by omega
          simp only [h4, if_true, h3, List.getD_cons_succ]
          exact h
        · right
          have : ∀ (vs : List V) (k : Nat), t < k → get (params k vs) t = .undef := by
            intro vs
            induction vs with
            | nil => intro k _; rfl
            | cons v r ih =>
              intro k hk
              simp only [params, get]
              have : k ≠ t := by omega
              simp only [this, if_false]
              exact ih (k + 1) (by omega)
          exact this vs (i + 1) (by omega)
      · exact .inr h

theorem enter_env {s : S} {vs : List V} {xs : List Value} (h : VRt s vs xs) (n : Nat) : EnvR s (params 0 vs) (xs.toArray ++ Array.replicate (n - xs.toArray.size) undef) := by
  intro t
  rcases params_env vs xs 0 h t with hv | hv
  · by_cases ht : t < xs.length
    · simp only [Nat.zero_le, if_true, Nat.sub_zero] at hv
      have : (xs.toArray ++ Array.replicate (n - xs.toArray.size) undef).getD t undef = xs.getD t undef := by
        rw [Array.getD_eq_getD_getElem?, Array.getElem?_append_left (by simpa using ht), List.getD_eq_getElem?_getD]
        simp
      rw [this]; exact hv
    · have hl := VRt.length _ _ h
      have : ∀ (vs : List V) (k : Nat), k + vs.length ≤ t → get (params k vs) t = .undef := by
        intro vs
        induction vs with
        | nil => intro k _; rfl
        | cons v r ih =>
          intro k hk
          simp only [params, get]
          simp only [List.length_cons] at hk
          have : k ≠ t := by omega
          simp only [this, if_false]
          exact ih (k + 1) (by omega)
      rw [this vs 0 (by omega)]; trivial
  · rw [hv]; trivial

def ExternOk (P : Program) (gl : Globs) (X : Extern) : Prop :=
  ∀ f x, X f = some x → Enters P f ∧ ∀ args m v m', x args m = some (v, m') → ∀ s, Sim (ocOf P gl) gl s → s.m = m → ∀ xs : List Value, VRt s args xs → CallsIn Fence.wide 0 P f xs.toArray s.w (EndsIn (ocOf P gl) gl s v m')

def CodeOk (P : Program) (gl : Globs) (Γ : Nat → Option CF) : Prop := ∀ f cf, Γ f = some cf → okCF P gl f cf = true

theorem step_loop {Γ : Nat → Option CF} {X : Extern} {F : Oracle} (hF : Best P gl F) (hmx : P.follows .mixedOrders = true) : GoodLoop P gl (step Γ X F) := by
  intro cx live keep body e m x e' m' h rd nt code ok
  simp only [step] at h
  cases hb : evC F cx body e m with
  | none => rw [hb] at h; simp at h
  | some p =>
    obtain ⟨x1, e1, m1⟩ := p
    rw [hb] at h
    have walk := fun N => sound_C hF (range_ok hF) hmx rd nt cx N body code e m x1 e1 m1 ok hb
    cases x1 with
    | normal =>
      obtain ⟨k, hk⟩ := hF.loop _ _ _ _ _ _ _ _ _ h rd nt code ok
      refine ⟨k + 1, fun N s A hs hm he hnt hN hmk Q hQ => ?_⟩
      rw [roundsIn_succ]
      refine walk N s A hs hm he hnt hN hmk _ fun s1 A1 q1 q2 q3 q4 q5 q6 => ?_
      subst q3
      obtain ⟨g1, g2⟩ := gc_ok q1 keep (only live e1)
      have henv : EnvR s1 (only live e1) A1.tmps := envR_only _ q4
      refine hk N ⟨s1.φ, gc keep (only live e1) s1.m, s1.w, s1.Im⟩ A1 g1 rfl (EnvR.ext g2 (fun t i hi => .inr (ids_get _ t i hi)) henv) (by rw [q5]; exact hnt) (Nat.le_trans hN q2.size) (Marks.ext g2 q6) Q fun s' A' r1 r2 r3 r4 r5 r6 => ?_
      exact hQ s' A' r1 (Ext.trans (Ext.mono q2 (fun _ _ => trivial)) (Ext.trans (Ext.mono g2 fun i hi => .inl hi) r2 (fun _ h => h)) (fun _ h => h)) r3 r4 (r5.trans q5) r6
    | exit id =>
      simp only [Option.some.injEq, Res.st.injEq] at h
      obtain ⟨rfl, rfl, rfl⟩ := h
      refine ⟨1, fun N s A hs hm he hnt hN hmk Q hQ => ?_⟩
      rw [roundsIn_succ]
      exact walk N s A hs hm he hnt hN hmk _ fun s1 A1 q1 q2 q3 q4 q5 q6 => hQ s1 A1 q1 (Ext.mono q2 (fun _ _ => trivial)) q3 q4 q5 q6
    | ret =>
      simp only [Option.some.injEq, Res.st.injEq] at h
      obtain ⟨rfl, rfl, rfl⟩ := h
      refine ⟨1, fun N s A hs hm he hnt hN hmk Q hQ => ?_⟩
      rw [roundsIn_succ]
      exact walk N s A hs hm he hnt hN hmk _ fun s1 A1 q1 q2 q3 q4 q5 q6 => hQ s1 A1 q1 (Ext.mono q2 (fun _ _ => trivial)) q3 q4 q5 q6

theorem step_call {Γ : Nat → Option CF} {X : Extern} {F : Oracle} (hF : Best P gl F) (hmx : P.follows .mixedOrders = true) (hX : ExternOk P gl X) (hΓ : CodeOk P gl Γ) : GoodCall P (ocOf P gl) gl (step Γ X F) := by
  intro lv f args m v m' h
  simp only [step] at h
  split at h
  · rename_i x hx
    simp only [Option.map_eq_some_iff, Res.val.injEq] at h
    obtain ⟨⟨v1, m1⟩, h1, rfl, rfl⟩ := h
    obtain ⟨k1, k2⟩ := hX f x hx
    exact ⟨k1, k2 _ _ _ _ h1⟩
  · split at h <;> try cases h
    rename_i cf hcf
    have hok := hΓ f cf hcf
    unfold okCF at hok
    split at hok <;> try cases hok
    rename_i fn hfn
    split at hok <;> try cases hok
    rename_i code hcode
    simp only [Bool.and_eq_true, bne_iff_ne] at hok
    obtain ⟨⟨hname, hokc⟩, hres⟩ := hok
    refine ⟨⟨fn, hfn, hname, by rw [hcode]; simp⟩, fun s hs hm xs hxs => ?_⟩
    -- what the body comes to
    obtain ⟨x, e1, m1, hev, hx, hr⟩ : ∃ x e1 m1, evC F ⟨lv, lv + 1⟩ cf.body (params 0 args) m = some (x, e1, m1) ∧ (x = .normal ∨ x = .ret) ∧ Evl.results m1 e1 cf.results = some v ∧ m' = m1 := by
      split at h <;> try cases h
      · rename_i e1 m1 hev
        simp only [Option.map_eq_some_iff, Res.val.injEq] at h
        obtain ⟨v1, h1, rfl, rfl⟩ := h
        exact ⟨_, _, _, hev, .inl rfl, h1, rfl⟩
      · rename_i e1 m1 hev
        simp only [Option.map_eq_some_iff, Res.val.injEq] at h
        obtain ⟨v1, h1, rfl, rfl⟩ := h
        exact ⟨_, _, _, hev, .inr rfl, h1, rfl⟩
    obtain ⟨hr, rfl⟩ := hr
    have hsz : fn.ntmps ≤ (xs.toArray ++ Array.replicate (fn.ntmps - xs.toArray.size) undef).size := by simp; omega
    refine callsIn_of_wp_marks (F := Fence.wide) hfn hcode trivial ?_
    refine sound_C hF (range_ok hF) hmx none fn.ntmps ⟨lv, lv + 1⟩ s.w.heap.size cf.body code (params 0 args) m x e1 m' hokc hev s { tmps := xs.toArray ++ Array.replicate (fn.ntmps - xs.toArray.size) undef, defers := [] } hs hm (enter_env hxs _) hsz (Nat.le_refl _) (Marks.nil _ _) _ fun s1 A1 q1 q2 q3 q4 q5 q6 => ?_
    have done : LeavesInM (fen none) 0 P fn A1.tmps (EndsIn (ocOf P gl) gl s v m') A1.defers .returning s1.w := by
      obtain ⟨rs, r1, r2, r3⟩ := q6
      rw [r1]
      refine leave rs s1 r2 r3 q1 q2 fun s2 t1 t2 t3 t4 => ?_
      have henv := EnvR.ext0 t3 (fun _ _ _ => trivial) q4
      obtain ⟨y, hy, hv⟩ := results_ok (fn := fn) t1 henv hres (by rw [t4, q3]; exact hr)
      exact ⟨y, hy, s2, y, rfl, rfl, t1, t2, t4.trans q3, hv⟩
    rcases hx with rfl | rfl <;> exact done

end
end Go.Evl

