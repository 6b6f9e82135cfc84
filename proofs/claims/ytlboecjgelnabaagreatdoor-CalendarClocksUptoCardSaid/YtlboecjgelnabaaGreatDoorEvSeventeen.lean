
/-
  A call, a round, a loop's rounds: one step of the evaluator; and so all of them.
-/
import Derived.Test.YtlboecjgelnabaaGreatDoorEvSixteen
namespace Go.Evl
open Go.RowKit

section
variable {P : Program} {gl : Globs}

/-! ### How an activation leaves -/

/-- A block that is nobody's, written whole. -/
theorem sim_aside {oc : Codes} {s : S} (hs : Sim oc gl s) {r : Nat} {x obj : Obj} (hx : s.w.heap[r]? = some x) (hf : Free s r) (hi : ∀ j, ¬ s.Im r j) :
    Sim oc gl ⟨s.φ, s.m, { s.w with heap := s.w.heap.setIfInBounds r obj }, s.Im⟩ ∧ Ext0 (fun _ => True) s ⟨s.φ, s.m, { s.w with heap := s.w.heap.setIfInBounds r obj }, s.Im⟩ ∧
    ∀ (K : Id → Prop) (s0 : S), Ext K s0 s → s0.w.heap.size ≤ r → Ext K s0 ⟨s.φ, s.m, { s.w with heap := s.w.heap.setIfInBounds r obj }, s.Im⟩ := by
  have hoth : ∀ c, c ≠ r → (s.w.heap.setIfInBounds r obj)[c]? = s.w.heap[c]? := fun c h => by simp [Ne.symm h]
  have hkeep : ∀ b j, s.Im b j → World.cell? { s.w with heap := s.w.heap.setIfInBounds r obj } ⟨b, j, none⟩ = s.w.cell? ⟨b, j, none⟩ := fun b j h => World.cell?_of_block (hoth b fun e => by subst e; exact hi j h)
  have h0 : Ext0 (fun _ => True) s ⟨s.φ, s.m, { s.w with heap := s.w.heap.setIfInBounds r obj }, s.Im⟩ := ⟨fun _ _ h => h, hkeep, fun i o _ ho => ⟨o, ho, Turned.refl _ _⟩⟩
  refine ⟨⟨fun i o ho => ?_, hs.apart, fun b j h => by simpa using hs.imlt b j h, fun g cs hg => CR.ext (fun _ _ h => h) hkeep g 0 cs (hs.glob g cs hg), fun g cs hg => ?_⟩, h0, fun K s0 hE hr => ?_⟩
  · by_cases hg : o = .gone
    · subst hg; trivial
    exact ObR.ext0 h0 (fun _ _ => trivial) (fun b hb => ⟨hoth b fun e => by subst e; exact hf i o ho hg hb, fun _ h => h⟩) (hs.objs i o ho)
  · obtain ⟨h1, h2, arr, t, fz, h3, h4⟩ := hs.tabs g cs hg
    refine ⟨h1, h2, arr, t, fz, (hoth g fun e => ?_).trans h3, h4⟩
    subst e
    cases cs with
    | nil => exact h2 rfl
    | cons d q => exact hi 0 (hs.glob _ _ hg).1
  · refine ⟨hE.os, hE.tape, hE.output, by simpa using hE.size, fun b hb hfb => ⟨?_, (hE.frame b hb hfb).2⟩, hE.imnew, hE.im, fun b j h => (hkeep b j (hE.im b j h)).trans (hE.keep b j h), hE.objs⟩
    have : (s.w.heap.setIfInBounds r obj)[b]? = s.w.heap[b]? := hoth b (by omega)
    exact this.trans (hE.frame b hb hfb).1

theorem leave {oc : Codes} {fn : Func} {tmps : Array Value} {R : Ending → World → Prop} {s0 : S} : ∀ (rs : List Nat) (s : S), rs.Nodup → (∀ r ∈ rs, s0.w.heap.size ≤ r ∧ s.w.heap[r]? = some (.deferred (some [])) ∧ Free s r ∧ ∀ j, ¬ s.Im r j) →
    Sim oc gl s → Ext (fun _ => True) s0 s →
    (∀ s', Sim oc gl s' → Ext (fun _ => True) s0 s' → Ext0 (fun _ => True) s s' → s'.m = s.m → ∃ v, (Go.results fn tmps).run P s'.w = .ok v s'.w ∧ R (.returned v) s'.w) →
    LeavesInM (fen none) 0 P fn tmps R (rs.map markOf) .returning s.w
  | [], s, _, _, hs, hE, h => h s hs hE ⟨fun _ _ h => h, fun _ _ _ => rfl, fun i o _ ho => ⟨o, ho, Turned.refl _ _⟩⟩ rfl
  | r :: rs, s, hn, hr, hs, hE, h => by
    obtain ⟨h1, h2, h3, h4⟩ := hr r (by simp)
    obtain ⟨k1, k2, k3⟩ := sim_aside (obj := .deferred none) hs h2 h3 h4
    have hn' := List.nodup_cons.1 hn
    refine ⟨by simp, .inl ⟨r, { s.w with heap := s.w.heap.setIfInBounds r (.deferred none) }, rfl, by simp [Instr.takeDeferred, getObj, setObj, Sem.run, h2], ?_⟩⟩
    refine leave rs ⟨s.φ, s.m, { s.w with heap := s.w.heap.setIfInBounds r (.deferred none) }, s.Im⟩ hn'.2 (fun r' hr' => ?_) k1 (k3 _ s0 hE h1) fun s' q1 q2 q3 q4 => ?_
    · obtain ⟨g1, g2, g3, g4⟩ := hr r' (by simp [hr'])
      have hne : r' ≠ r := fun e => hn'.1 (e ▸ hr')
      refine ⟨g1, ?_, g3, g4⟩
      show (s.w.heap.setIfInBounds r (.deferred none))[r']? = _
      simp [Ne.symm hne, g2]
    · exact h s' q1 q2 ⟨fun b j h => q3.im b j h, fun b j h => (q3.keep b j h).trans (k2.keep b j h), fun i o _ ho => q3.objs i o trivial ho⟩ q4

def okRV (P : Program) : RV → ResultVar → Bool
  | .tmp t, .tmp u => t == u
  | .cell t n, .cell u ty => t == u && cellP P ty n
  | _, _ => false
def okRVs (P : Program) : List RV → List ResultVar → Bool
  | [], [] => true
  | a :: r, b :: q => okRV P a b && okRVs P r q
  | _, _ => false

def resultOf (tmps : Array Value) : ResultVar → Sem Value
  | .tmp t => pure (tmps.getD t undef)
  | .cell a t => do loadVar t (← asAddr (tmps.getD a undef))

theorem resV_ok {oc : Codes} {s : S} (hs : Sim oc gl s) {e : Env} {tmps : Array Value} (he : EnvR s e tmps) {a : RV} {b : ResultVar} {v : V} (ok : okRV P a b = true) (h : resV s.m e a = some v) : ∃ y, (resultOf tmps b).run P s.w = .ok y s.w ∧ VR s v y := by
  cases a with
  | tmp t =>
    cases b <;> simp only [okRV, Bool.false_eq_true] at ok
    simp only [beq_iff_eq] at ok
    subst ok
    simp only [resV, Option.some.injEq] at h
    subst h
    exact ⟨_, rfl, he t⟩
  | cell t n =>
    cases b <;> simp only [okRV, Bool.false_eq_true] at ok
    simp only [Bool.and_eq_true, beq_iff_eq] at ok
    obtain ⟨rfl, hc⟩ := ok
    obtain ⟨ad, y, hx, hr, hv⟩ := loadV_ok hs hc (he t) h
    exact ⟨y, by simp [resultOf, asAddr, hx, hr], hv⟩

theorem resVs_ok {oc : Codes} {s : S} (hs : Sim oc gl s) {e : Env} {tmps : Array Value} (he : EnvR s e tmps) : ∀ (as : List RV) (bs : List ResultVar) (vs : List V), okRVs P as bs = true → resVs s.m e as = some vs →
    ∃ ys, (bs.mapM (resultOf tmps)).run P s.w = .ok ys s.w ∧ VRt s vs ys
  | [], [], vs, _, h => by simp only [resVs, Option.some.injEq] at h; subst h; exact ⟨[], rfl, rfl⟩
  | [], _ :: _, _, ok, _ => by simp [okRVs] at ok
  | _ :: _, [], _, ok, _ => by simp [okRVs] at ok
  | a :: as, b :: bs, vs, ok, h => by
    simp only [okRVs, Bool.and_eq_true] at ok
    simp only [resVs] at h
    split at h <;> try cases h
    rename_i v vs' h1 h2
    obtain ⟨y, hy, hv⟩ := resV_ok hs he ok.1 h1
    obtain ⟨ys, hys, hvs⟩ := resVs_ok hs he as bs vs' ok.2 h2
    exact ⟨y :: ys, by simp [List.mapM_cons, hy, hys], y, ys, rfl, hv, hvs⟩

theorem results_ok {oc : Codes} {s : S} (hs : Sim oc gl s) {e : Env} {fn : Func} {tmps : Array Value} (he : EnvR s e tmps) {rs : List RV} {v : V} (ok : okRVs P rs fn.results.toList = true) (h : Evl.results s.m e rs = some v) :
    ∃ y, (Go.results fn tmps).run P s.w = .ok y s.w ∧ VR s v y := by
  have hf : Go.results fn tmps = (do
      let vs ← List.toArray <$> fn.results.toList.mapM (resultOf tmps)
      pure (if h : vs.size = 1 then vs[0] else .tuple vs)) := by
    have hg : ∀ (g : ResultVar → Sem Value), (∀ x, g x = resultOf tmps x) → (fn.results.mapM g) = List.toArray <$> fn.results.toList.mapM (resultOf tmps) := by
      intro g hg
      rw [Array.mapM_eq_mapM_toList, show g = resultOf tmps from funext hg]
    unfold Go.results
    rw [hg _ fun x => by cases x <;> rfl]
  have fin : ∀ (vs : List V) (ys : List Value), (fn.results.toList.mapM (resultOf tmps)).run P s.w = .ok ys s.w → (Go.results fn tmps).run P s.w = .ok (if h : ys.toArray.size = 1 then ys.toArray[0] else .tuple ys.toArray) s.w := by
    intro vs ys hy
    rw [hf]
    simp [hy]
  unfold Evl.results at h
  split at h
  · rename_i r
    cases hb : fn.results.toList with
    | nil => rw [hb] at ok; simp [okRVs] at ok
    | cons b q =>
      rw [hb] at ok
      simp only [okRVs, Bool.and_eq_true] at ok
      cases q with
      | cons _ _ => simp [okRVs] at ok
      | nil =>
        obtain ⟨y, hy, hv⟩ := resV_ok hs he ok.1 h
        refine ⟨y, ?_, hv⟩
        rw [fin [] [y] (by rw [hb]; simp [List.mapM_cons, hy])]
        rfl
  · rename_i hne
    simp only [Option.map_eq_some_iff] at h
    obtain ⟨vs, h1, rfl⟩ := h
    obtain ⟨ys, hy, hv⟩ := resVs_ok hs he _ _ vs ok h1
    refine ⟨.tuple ys.toArray, ?_, ys.toArray, rfl, hv⟩
    rw [fin [] ys hy]
    have hlen : ys.length ≠ 1 := by
      intro hl
      have h2 := (VRt.length _ _ hv).trans hl
      have h3 : ∀ (rs : List RV) (vs : List V), resVs s.m e rs = some vs → vs.length = rs.length := by
        intro rs
        induction rs with
        | nil => intro vs h; simp only [resVs, Option.some.injEq] at h; subst h; rfl
        | cons a r ih =>
          intro vs h
          simp only [resVs] at h
          split at h <;> try cases h
          rename_i h4 h5
          simp [ih _ h5]
      have h4 := h3 _ _ h1
      match rs, hne, h4 with
      | [r], hne, _ => exact hne r rfl
      | [], _, h4 => simp [h2] at h4
      | _ :: _ :: _, _, h4 => simp [h2] at h4
    simp [hlen]

end
end Go.Evl

