
/-
  Code: the checks, the marks that a range over a function leaves, and the walk (all but a range over a function).
-/
import Derived.Test.YtlboecjgelnabaaGreatDoorEvFourteen
import Derived.LoopNIn
import Derived.Scope
namespace Go.Evl
open Go.RowKit

theorem wpIn_scope {F : Fence} {n : Nat} {P : Program} {Q : Exit → Act → World → Prop} {a : Act} {w : World} {c : Code} (h : c.wpIn F n P (Exit.noGoto Q) a w) : (Code.scope c).wpIn F n P Q a w := by
  intro b k cs hro hb hr
  have s0 : ∀ (a : Act) (w : World), Go.step P (lone (b.atR a (.code (.scope c) :: k)) cs w) = .next (lone (b.atR a (.code c :: .inScope c :: k)) cs w) :=
    fun a w => step_lone_go (by simp [stepG, stepG.exec, Frame.atR])
  have s1 : ∀ (a : Act) (w : World), Go.step P (lone (b.atR a (.inScope c :: k)) cs w) = .next (lone (b.atR a k) cs w) :=
    fun a w => step_lone_go (by simp [stepG, stepG.exec, Frame.atR])
  have h0 : (lone (b.atR a (.code (.scope c) :: k)) cs w).fenced P F := fenced_calm hb hr rfl
  obtain ⟨e, a₁, w₁, hq, harr⟩ := h b (.inScope c :: k) cs hro hb hr
  cases e with
  | normal => exact ⟨.normal, a₁, w₁, hq, .head h0 (s0 a w) (StepsIn.trans harr (.one (fenced_calm hb hr rfl) (s1 a₁ w₁)))⟩
  | exit id =>
    have hx : exitTo id (.inScope c :: k) = exitTo id k := by simp [exitTo]
    exact ⟨.exit id, a₁, w₁, hq, fun k' hk => .head h0 (s0 a w) (harr.1 k' (by rw [hx]; exact hk)),
      fun hr' hk => let ⟨k₁, h1, h2⟩ := harr.2 hr' (by rw [hx]; exact hk); ⟨k₁, h1, .head h0 (s0 a w) h2⟩⟩
  | goto l => exact hq.elim
  | ret => exact ⟨_, a₁, w₁, hq, .of_steps (.one h0 (s0 a w)) harr⟩
  | panic ch => exact ⟨_, a₁, w₁, hq, .of_steps (.one h0 (s0 a w)) harr⟩
  | outgrown => exact ⟨_, a₁, w₁, hq, .of_steps (.one h0 (s0 a w)) harr⟩

def okC (P : Program) (gl : Globs) (nt : Nat) (rnd : Bool) : C → Code → Bool
  | .skip, .skip => true
  | .label, .label _ => true
  | .reg d ops _, .region _ os dr => d == dr && okCOs P gl nt os ops os.toList && (!dr || okDraw os ops)
  | .seq a b, .seq x y => okC P gl nt rnd a x && okC P gl nt rnd b y
  | .cond c a b, .cond x p q => okX gl x c && okC P gl nt rnd a p && okC P gl nt rnd b q
  | .block i c, .block j d => i == j && okC P gl nt rnd c d
  | .loop _ c, .loop d => okC P gl nt rnd c d
  | .exit i, .exit j => i == j
  | .scope c, .scope d => okC P gl nt rnd c d
  | .ret, .ret => true
  | .rangeFn _ f ps a b, .rangeFunc g qs x y => !rnd && okX gl g f && qs.toList == ps && ps.all (fun t => decide (t < nt)) && okC P gl nt true a x && okC P gl nt true b y
  | _, _ => false

def ocOf (P : Program) (gl : Globs) : Codes := fun n c code => ∃ nt, nt ≤ n ∧ okC P gl nt true c code = true

def Ex.exit' : Ex → Exit
  | .normal => .normal
  | .exit id => .exit id
  | .ret => .ret

def markOf (r : Nat) : Deferred := { target := .collected r, args := #[] }

/-- The marks that an activation's ranges over functions have left among its deferred calls. -/
def Marks (N : Nat) (s : S) (ds : List Deferred) : Prop :=
  ∃ rs : List Nat, ds = rs.map markOf ∧ rs.Nodup ∧ ∀ r ∈ rs, N ≤ r ∧ s.w.heap[r]? = some (.deferred (some [])) ∧ Free s r ∧ ∀ j, ¬ s.Im r j

theorem Marks.nil (N : Nat) (s : S) : Marks N s [] := ⟨[], rfl, List.nodup_nil, fun r h => by simp at h⟩

theorem Marks.ext {K : Id → Prop} {N : Nat} {s s' : S} {ds : List Deferred} (h : Ext K s s') (hm : Marks N s ds) : Marks N s' ds := by
  obtain ⟨rs, h1, h2, h3⟩ := hm
  refine ⟨rs, h1, h2, fun r hr => ?_⟩
  obtain ⟨k1, k2, k3, k4⟩ := h3 r hr
  have hlt := (Array.getElem?_eq_some_iff.1 k2).1
  obtain ⟨f1, f2⟩ := h.frame r hlt k3
  refine ⟨k1, f1.trans k2, f2, fun j hj => ?_⟩
  rcases h.imnew r j hj with q | q | q
  · exact k4 j q
  · omega
  · exact q k3

section
variable {P : Program} {gl : Globs}

def GoodLoop (P : Program) (gl : Globs) (F : Oracle) : Prop :=
  ∀ cx live keep body e m x e' m', F (.loop cx live keep body e m) = some (.st x e' m') → ∀ (rd : Option Nat) (nt : Nat) (code : Code), okC P gl nt rd.isSome body code = true →
    ∃ k, ∀ (N : Nat) (s : S) (A : Act), Sim (ocOf P gl) gl s → s.m = m → EnvR s e A.tmps → nt ≤ A.tmps.size → N ≤ s.w.heap.size → Marks N s A.defers → ∀ (Q : Exit → Act → World → Prop),
      (∀ s' A', Sim (ocOf P gl) gl s' → Ext (fun i => i ∈ keep) s s' → s'.m = m' → EnvR s' e' A'.tmps → A'.tmps.size = A.tmps.size → Marks N s' A'.defers → Q x.exit' A' s'.w) →
      Code.roundsIn (fen rd) 0 P code Q k A s.w

structure Best (P : Program) (gl : Globs) (F : Oracle) : Prop where
  good : Good P (ocOf P gl) gl F
  loop : GoodLoop P gl F

theorem keys_look : ∀ (m : Mem) (i : Id) (o : Ob), look m i = some o → i ∈ keys m
  | [], i, o, h => by simp [look] at h
  | (j, y) :: r, i, o, h => by
    simp only [look] at h
    split at h
    · rename_i e; subst e; simp [keys]
    · have := keys_look r i o h
      simp only [keys, List.map_cons, List.mem_cons]
      exact .inr this

theorem gc1_keys (e : Env) (m : Mem) : gc1 (keys m) e m = m := by
  unfold gc1
  refine List.filter_eq_self.2 fun p hp => ?_
  have : p.1 ∈ keys m := List.mem_map_of_mem hp
  simp [this]

theorem gc_keys (e : Env) (m : Mem) : gc (keys m) e m = m := by
  unfold gc
  rw [gc1_keys, gc1_keys, gc1_keys]

/-- What a range over a function comes to (proved in the next text). -/
def RangeOk (P : Program) (gl : Globs) (F : Oracle) : Prop :=
  ∀ cx slot f ps a b e m x e' m', evC F cx (.rangeFn slot f ps a b) e m = some (x, e', m') → ∀ (nt : Nat) (code : Code), okC P gl nt false (.rangeFn slot f ps a b) code = true →
    ∀ (N : Nat) (s : S) (A : Act), Sim (ocOf P gl) gl s → s.m = m → EnvR s e A.tmps → nt ≤ A.tmps.size → N ≤ s.w.heap.size → Marks N s A.defers → ∀ (Q : Exit → Act → World → Prop),
      (∀ s' A', Sim (ocOf P gl) gl s' → Ext (fun _ => True) s s' → s'.m = m' → EnvR s' e' A'.tmps → A'.tmps.size = A.tmps.size → Marks N s' A'.defers → Q x.exit' A' s'.w) →
      code.wpIn (fen none) 0 P Q A s.w

theorem sound_C {F : Oracle} (hF : Best P gl F) (hR : RangeOk P gl F) (hmx : P.follows .mixedOrders = true) (rd : Option Nat) (nt : Nat) (cx : Cx) (N : Nat) :
    ∀ (c : C) (code : Code) (e : Env) (m : Mem) (x : Ex) (e' : Env) (m' : Mem), okC P gl nt rd.isSome c code = true → evC F cx c e m = some (x, e', m') →
    ∀ (s : S) (A : Act), Sim (ocOf P gl) gl s → s.m = m → EnvR s e A.tmps → nt ≤ A.tmps.size → N ≤ s.w.heap.size → Marks N s A.defers → ∀ (Q : Exit → Act → World → Prop),
      (∀ s' A', Sim (ocOf P gl) gl s' → Ext (fun _ => True) s s' → s'.m = m' → EnvR s' e' A'.tmps → A'.tmps.size = A.tmps.size → Marks N s' A'.defers → Q x.exit' A' s'.w) →
      code.wpIn (fen rd) 0 P Q A s.w := by
  intro c
  induction c with
  | skip =>
    intro code e m x e' m' ok h s A hs hm he hnt hN hmk Q hQ
    cases code <;> simp only [okC, Bool.false_eq_true] at ok
    simp only [evC, Option.some.injEq, Prod.mk.injEq] at h
    obtain ⟨rfl, rfl, rfl⟩ := h
    exact wpIn_skip (hQ s A hs (Ext.refl _ _) hm he rfl hmk)
  | label =>
    intro code e m x e' m' ok h s A hs hm he hnt hN hmk Q hQ
    cases code <;> simp only [okC, Bool.false_eq_true] at ok
    simp only [evC, Option.some.injEq, Prod.mk.injEq] at h
    obtain ⟨rfl, rfl, rfl⟩ := h
    exact wpIn_label (hQ s A hs (Ext.refl _ _) hm he rfl hmk)
  | reg d ops kill =>
    intro code e m x e' m' ok h s A hs hm he hnt hN hmk Q hQ
    cases code <;> simp only [okC, Bool.false_eq_true] at ok
    simp only [Bool.and_eq_true, beq_iff_eq] at ok
    obtain ⟨⟨rfl, hok⟩, hdr⟩ := ok
    simp only [evC, Option.map_eq_some_iff, Prod.mk.injEq] at h
    obtain ⟨⟨e1, m1⟩, h1, rfl, rfl, rfl⟩ := h
    subst hm
    refine sound_reg hF.good hmx rd cx _ _ hok (fun hd => by simpa [hd] using hdr) h1 hs he hnt fun s' A' q1 q2 q3 q4 q5 q6 => ?_
    exact hQ s' A' q1 q2 q3 (envR_filter _ (fun _ _ _ => rfl) q4) q5 (by rw [q6]; exact Marks.ext q2 hmk)
  | seq a b iha ihb =>
    intro code e m x e' m' ok h s A hs hm he hnt hN hmk Q hQ
    cases code <;> simp only [okC, Bool.false_eq_true] at ok
    simp only [Bool.and_eq_true] at ok
    simp only [evC] at h
    refine wpIn_seq ?_
    cases ha : evC F cx a e m with
    | none => rw [ha] at h; simp at h
    | some p =>
      obtain ⟨x1, e1, m1⟩ := p
      rw [ha] at h
      refine iha _ e m x1 e1 m1 ok.1 ha s A hs hm he hnt hN hmk _ fun s1 A1 q1 q2 q3 q4 q5 q6 => ?_
      cases x1 with
      | normal =>
        refine ihb _ e1 m1 x e' m' ok.2 h s1 A1 q1 q3 q4 (by rw [q5]; exact hnt) (Nat.le_trans hN q2.size) q6 Q fun s2 A2 r1 r2 r3 r4 r5 r6 => ?_
        exact hQ s2 A2 r1 (Ext.trans q2 r2 (fun _ _ => trivial)) r3 r4 (r5.trans q5) r6
      | exit id =>
        simp only [Option.some.injEq, Prod.mk.injEq] at h
        obtain ⟨rfl, rfl, rfl⟩ := h
        exact hQ s1 A1 q1 q2 q3 q4 q5 q6
      | ret =>
        simp only [Option.some.injEq, Prod.mk.injEq] at h
        obtain ⟨rfl, rfl, rfl⟩ := h
        exact hQ s1 A1 q1 q2 q3 q4 q5 q6
  | cond c a b iha ihb =>
    intro code e m x e' m' ok h s A hs hm he hnt hN hmk Q hQ
    cases code <;> simp only [okC, Bool.false_eq_true] at ok
    simp only [Bool.and_eq_true] at ok
    simp only [evC] at h
    split at h <;> try cases h
    rename_i t hc
    have hv := okX_ok hs he ok.1.1
    rw [hc] at hv
    refine wpIn_cond (t := t) hv ?_
    cases t with
    | true =>
      simp only [if_true] at h ⊢
      exact iha _ e m x e' m' ok.1.2 h s A hs hm he hnt hN hmk Q hQ
    | false =>
      simp only [Bool.false_eq_true, if_false] at h ⊢
      exact ihb _ e m x e' m' ok.2 h s A hs hm he hnt hN hmk Q hQ
  | block id c ih =>
    intro code e m x e' m' ok h s A hs hm he hnt hN hmk Q hQ
    cases code <;> simp only [okC, Bool.false_eq_true] at ok
    simp only [Bool.and_eq_true, beq_iff_eq] at ok
    obtain ⟨rfl, ok⟩ := ok
    simp only [evC] at h
    refine wpIn_block ?_
    cases hc : evC F cx c e m with
    | none => rw [hc] at h; simp at h
    | some p =>
      obtain ⟨x1, e1, m1⟩ := p
      rw [hc] at h
      refine ih _ e m x1 e1 m1 ok hc s A hs hm he hnt hN hmk _ fun s1 A1 q1 q2 q3 q4 q5 q6 => ?_
      cases x1 with
      | normal =>
        simp only [Option.some.injEq, Prod.mk.injEq] at h
        obtain ⟨rfl, rfl, rfl⟩ := h
        exact hQ s1 A1 q1 q2 q3 q4 q5 q6
      | exit j =>
        simp only at h
        show Exit.inBlock id Q (.exit j) A1 s1.w
        simp only [Exit.inBlock]
        split at h
        · rename_i hj
          simp only [Option.some.injEq, Prod.mk.injEq] at h
          obtain ⟨rfl, rfl, rfl⟩ := h
          simp only [hj, if_true]
          exact hQ s1 A1 q1 q2 q3 q4 q5 q6
        · rename_i hj
          simp only [Option.some.injEq, Prod.mk.injEq] at h
          obtain ⟨rfl, rfl, rfl⟩ := h
          simp only [hj, if_false]
          exact hQ s1 A1 q1 q2 q3 q4 q5 q6
      | ret =>
        simp only [Option.some.injEq, Prod.mk.injEq] at h
        obtain ⟨rfl, rfl, rfl⟩ := h
        exact hQ s1 A1 q1 q2 q3 q4 q5 q6
  | loop live c ih =>
    intro code e m x e' m' ok h s A hs hm he hnt hN hmk Q hQ
    cases code <;> simp only [okC, Bool.false_eq_true] at ok
    simp only [evC, gc_keys] at h
    split at h <;> try cases h
    rename_i hl
    obtain ⟨k, hk⟩ := hF.loop _ _ _ _ _ _ _ _ _ hl rd nt _ ok
    refine wpIn_loop_rounds k (hk N s A hs hm (envR_only _ he) hnt hN hmk Q fun s' A' q1 q2 q3 q4 q5 q6 => ?_)
    refine hQ s' A' q1 (Ext.of_look (Ext.mono q2 fun i hi => ?_)) q3 q4 q5 q6
    cases ho : look s.m i with
    | none => exact absurd ho hi
    | some o => rw [← hm]; exact keys_look _ i o ho
  | rangeFn slot f ps a b =>
    intro code e m x e' m' ok h s A hs hm he hnt hN hmk Q hQ
    cases rd with
    | none => exact hR cx slot f ps a b e m x e' m' h nt code ok N s A hs hm he hnt hN hmk Q hQ
    | some l => cases code <;> simp [okC] at ok
  | exit id =>
    intro code e m x e' m' ok h s A hs hm he hnt hN hmk Q hQ
    cases code <;> simp only [okC, Bool.false_eq_true] at ok
    simp only [beq_iff_eq] at ok
    subst ok
    simp only [evC, Option.some.injEq, Prod.mk.injEq] at h
    obtain ⟨rfl, rfl, rfl⟩ := h
    exact wpIn_exit (hQ s A hs (Ext.refl _ _) hm he rfl hmk)
  | scope c ih =>
    intro code e m x e' m' ok h s A hs hm he hnt hN hmk Q hQ
    cases code <;> simp only [okC, Bool.false_eq_true] at ok
    simp only [evC] at h
    refine wpIn_scope (ih _ e m x e' m' ok h s A hs hm he hnt hN hmk _ fun s' A' q1 q2 q3 q4 q5 q6 => ?_)
    have := hQ s' A' q1 q2 q3 q4 q5 q6
    cases x <;> exact this
  | ret =>
    intro code e m x e' m' ok h s A hs hm he hnt hN hmk Q hQ
    cases code <;> simp only [okC, Bool.false_eq_true] at ok
    simp only [evC, Option.some.injEq, Prod.mk.injEq] at h
    obtain ⟨rfl, rfl, rfl⟩ := h
    exact wpIn_ret (hQ s A hs (Ext.refl _ _) hm he rfl hmk)

end
end Go.Evl

