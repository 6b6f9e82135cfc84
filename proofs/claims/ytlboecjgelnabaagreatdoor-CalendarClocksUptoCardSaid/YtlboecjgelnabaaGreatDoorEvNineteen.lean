
/-
  A round of a range over a function; all steps.
-/
import Derived.Test.YtlboecjgelnabaaGreatDoorEvEighteen
namespace Go.Evl
open Go.RowKit

section
variable {P : Program} {gl : Globs}

theorem zip_env {s : S} : ∀ (ps : List Nat) (args : List V) (xs : List Value) (e : Env) (tmps : Array Value), ps.length = args.length → VRt s args xs → EnvR s e tmps → (∀ t ∈ ps, t < tmps.size) →
    EnvR s (zipP ps args e) ((ps.toArray.zip xs.toArray).foldl (fun tmps (t, a) => tmps.setIfInBounds t a) tmps) ∧ ((ps.toArray.zip xs.toArray).foldl (fun tmps (t, a) => tmps.setIfInBounds t a) tmps).size = tmps.size
  | [], args, xs, e, tmps, _, _, he, _ => by
    have hz : (([] : List Nat).toArray.zip xs.toArray).foldl (fun tmps (t, a) => tmps.setIfInBounds t a) tmps = tmps := by
      rw [← Array.foldl_toList]
      simp
    rw [hz]
    exact ⟨by cases args <;> exact he, rfl⟩
  | p :: ps, [], xs, e, tmps, h, _, _, _ => by simp at h
  | p :: ps, v :: args, _, e, tmps, h, ⟨x, ys, hx, h1, h2⟩, he, hp => by
    subst hx
    have hpt := hp p (by simp)
    have he' : EnvR s (put e p v) (tmps.setIfInBounds p x) := by
      have := envR_put (A := { tmps := tmps, defers := [] }) he (some p) (fun t ht => by obtain rfl := Option.some.inj ht; exact hpt) h1
      exact this
    obtain ⟨k1, k2⟩ := zip_env ps args ys (put e p v) (tmps.setIfInBounds p x) (by simpa using h) h2 he' (fun t ht => by simpa using hp t (by simp [ht]))
    have hz : ((p :: ps).toArray.zip (x :: ys).toArray).foldl (fun tmps (t, a) => tmps.setIfInBounds t a) tmps = (ps.toArray.zip ys.toArray).foldl (fun tmps (t, a) => tmps.setIfInBounds t a) (tmps.setIfInBounds p x) := by
      rw [← Array.foldl_toList, ← Array.foldl_toList]
      simp
    rw [hz]
    exact ⟨k1, by rw [k2]; simp⟩

theorem step_round {Γ : Nat → Option CF} {X : Extern} {F : Oracle} (hF : Best P gl F) (hmx : P.follows .mixedOrders = true) : GoodRound P (ocOf P gl) gl (step Γ X F) := by
  intro nx o args m v m' h
  simp only [step] at h
  split at h <;> try cases h
  rename_i e ps a b lv j0 hlk
  split at h <;> try cases h
  rename_i hpl
  split at h <;> try cases h
  rename_i e1 m1 heva
  split at h <;> try cases h
  rename_i e' ps' a' b' lv' j' hlk1
  split at h <;> try cases h
  rename_i x ex m2 hevb
  split at h <;> try cases h
  rename_i e3 ps3 a3 b3 lv3 j3 hlk2
  refine ⟨⟨_, _, _, _, _, _, _, _, hlk⟩, fun s hs hm xs hxs l hl => ?_⟩
  subst hm
  obtain ⟨l0, L, hp0, hL, hpar, hplt, henv, hoa, hob, hst, hpend⟩ := hs.objs o _ hlk
  have hll : l0 = l := by rw [hl] at hp0; simpa using hp0.symm
  subst hll
  have hlen := VRt.length _ _ hxs
  refine ⟨L, hL, by rw [hpar]; simpa using hpl.trans hlen, ?_⟩
  obtain ⟨nta, hnta, hoka⟩ := hoa
  obtain ⟨ntb, hntb, hokb⟩ := hob
  obtain ⟨z1, z2⟩ := zip_env ps args xs e L.tmps hpl hxs henv hplt
  rw [hpar]
  refine roundIn_of_wpIn (F := Fence.wide) trivial ?_
  -- the left sides
  refine sound_C hF (range_ok hF) hmx (some l0) nta ⟨lv, nx⟩ 0 a L.assign _ _ .normal e1 m1 hoka heva s { tmps := (ps.toArray.zip xs.toArray).foldl (fun tmps (t, a) => tmps.setIfInBounds t a) L.tmps, defers := [] } hs rfl z1 (by rw [z2]; exact hnta) (Nat.zero_le _) (Marks.nil _ _) _ fun s1 A1 q1 q2 q3 q4 q5 q6 => ?_
  subst q3
  obtain ⟨o1, ho1, ht1⟩ := q2.objs o _ trivial hlk
  rw [hlk1] at ho1
  obtain rfl := Option.some.inj ho1
  have hp1 : s1.φ o = .pointer (some ⟨l0, 0, none⟩) := (show s1.φ o = s.φ o from ht1).trans hl
  obtain ⟨l1, L1, hpl1, hL1, hpar1, hplt1, henv1, hoa1, hob1, hst1, hpend1⟩ := q1.objs o _ hlk1
  have hll1 : l1 = l0 := by rw [hp1] at hpl1; simpa using hpl1.symm
  subst hll1
  have hlt1 : l1 < s1.w.heap.size := (Array.getElem?_eq_some_iff.1 hL1).1
  obtain ⟨kB1, kB2⟩ := putBlock q1 o _ (.loop e' ps' a' b' lv' true false j') hlk1 (by simp) l1 _ hp1 rfl _ (.loop { L1 with state := .busy }) hL1 rfl rfl rfl
    (fun hE => ⟨l1, { L1 with state := .busy }, rfl, by simp [hlt1], hpar1, hplt1, EnvR.ext hE (fun _ _ _ => trivial) henv1, hoa1, hob1, rfl, hpend1⟩)
  have hready : L1.state = .ready := hst1
  refine ⟨{ s1.w with heap := s1.w.heap.setIfInBounds l1 (.loop { L1 with state := .busy }) }, by simp [Instr.beginRound, Instr.getLoop, getObj, setObj, Sem.run, hL1, hready], ?_⟩
  -- the body
  refine sound_C hF (range_ok hF) hmx (some l1) ntb ⟨lv, nx⟩ 0 b L.body e1 _ x ex m2 hokb hevb _ A1 kB1 rfl (EnvR.ext kB2 (fun _ _ _ => trivial) q4) (by rw [q5]; show ntb ≤ Array.size _; rw [z2]; exact hntb) (Nat.zero_le _) (Marks.ext kB2 q6) _ fun s2 A2 r1 r2 r3 r4 r5 r6 => ?_
  subst r3
  obtain ⟨o2, ho2, ht2⟩ := r2.objs o _ trivial (look_upd_same _ _ _)
  rw [hlk2] at ho2
  obtain rfl := Option.some.inj ho2
  have hp2 : s2.φ o = .pointer (some ⟨l1, 0, none⟩) := by
    have : s2.φ o = _ := ht2
    rw [this]; simp
  obtain ⟨l2, L2, hpl2, hL2, hpar2, hplt2, henv2, hoa2, hob2, hst2, hpend2⟩ := r1.objs o _ hlk2
  have hll2 : l2 = l1 := by rw [hp2] at hpl2; simpa using hpl2.symm
  subst hll2
  have hlt2 : l2 < s2.w.heap.size := (Array.getElem?_eq_some_iff.1 hL2).1
  have hE2 : Ext (fun _ => True) s s2 := Ext.trans q2 (Ext.trans kB2 r2 (fun _ _ => trivial)) (fun _ _ => trivial)
  -- the end of the round
  have fin : ∀ (ov : Bool) (jj : Option Jump), (if jj.isNone then LoopState.ready else .done) = stateOf false ov →
      ∃ s3 : S, Sim (ocOf P gl) gl s3 ∧ Ext (fun _ => True) s s3 ∧ s3.m = upd s2.m o (.loop e3 ps3 a3 b3 lv3 false ov jj) ∧ (Instr.endRound l2 (jj.map jumpCode)).run P s2.w = .ok (.bool jj.isNone) s3.w := by
    intro ov jj hss
    obtain ⟨k1, k2⟩ := putBlock r1 o _ (.loop e3 ps3 a3 b3 lv3 false ov jj) hlk2 (by simp) l2 _ hp2 rfl _ (.loop { L2 with state := (if jj.isNone then LoopState.ready else .done), pending := jj.map jumpCode }) hL2 rfl rfl rfl
      (fun hE => ⟨l2, { L2 with state := (if jj.isNone then LoopState.ready else .done), pending := jj.map jumpCode }, rfl, by simp [hlt2], hpar2, hplt2, EnvR.ext hE (fun _ _ _ => trivial) henv2, hoa2, hob2, hss, rfl⟩)
    refine ⟨_, k1, Ext.trans hE2 k2 (fun _ _ => trivial), rfl, ?_⟩
    cases jj <;> simp [Instr.endRound, Instr.getLoop, getObj, setObj, Sem.run, hL2]
  cases x with
  | normal =>
    simp only [Option.some.injEq, Res.val.injEq] at h
    obtain ⟨rfl, rfl⟩ := h
    obtain ⟨s3, k1, k2, k3, k4⟩ := fin false none rfl
    obtain ⟨g1, g2⟩ := gc_ok k1 (keys s.m) []
    refine ⟨.bool true, s3.w, k4, ⟨s3.φ, gc (keys s.m) [] s3.m, s3.w, s3.Im⟩, .bool true, rfl, rfl, g1, ?_, by rw [k3], rfl⟩
    refine Ext.of_look (Ext.trans (Ext.mono k2 (fun _ _ => trivial)) g2 fun i hi => .inl ?_)
    cases ho : look s.m i with
    | none => exact absurd ho hi
    | some o => exact keys_look _ i o ho
  | exit id =>
    simp only [Option.some.injEq, Res.val.injEq] at h
    obtain ⟨rfl, rfl⟩ := h
    obtain ⟨s3, k1, k2, k3, k4⟩ := fin true (some (.exit id)) rfl
    exact ⟨.bool false, s3.w, k4, s3, .bool false, rfl, rfl, k1, k2, k3, rfl⟩
  | ret =>
    simp only [Option.some.injEq, Res.val.injEq] at h
    obtain ⟨rfl, rfl⟩ := h
    obtain ⟨s3, k1, k2, k3, k4⟩ := fin true (some .ret) rfl
    exact ⟨.bool false, s3.w, k4, s3, .bool false, rfl, rfl, k1, k2, k3, rfl⟩

/-- HOWEVER DEEP. -/
theorem iter_best {Γ : Nat → Option CF} {X : Extern} (hmx : P.follows .mixedOrders = true) (hX : ExternOk P gl X) (hΓ : CodeOk P gl Γ) : ∀ n, Best P gl (iter Γ X n)
  | 0 => ⟨⟨fun _ _ _ _ _ _ h => by simp [iter] at h, fun _ _ _ _ _ _ h => by simp [iter] at h⟩, fun _ _ _ _ _ _ _ _ _ h => by simp [iter] at h⟩
  | n + 1 =>
    have hF := iter_best hmx hX hΓ n
    ⟨⟨step_call hF hmx hX hΓ, step_round hF hmx⟩, step_loop hF hmx⟩

/-- WHAT THE EVALUATOR SAYS OF A CALL, THE MODEL DOES. -/
theorem calls_of_iter {Γ : Nat → Option CF} {X : Extern} (hmx : P.follows .mixedOrders = true) (hX : ExternOk P gl X) (hΓ : CodeOk P gl Γ) {n f : Nat} {args : List V} {v : V} {m' : Mem} (h : iter Γ X n (.call 0 f args []) = some (.val v m'))
    {s : S} (hs : Sim (ocOf P gl) gl s) (hm : s.m = []) {xs : List Value} (hxs : VRt s args xs) : Calls P f xs.toArray s.w (EndsIn (ocOf P gl) gl s v m') :=
  callsIn_wide.1 (((iter_best hmx hX hΓ n).good.call _ _ _ _ _ _ h).2 s hs hm xs hxs)

end
end Go.Evl

