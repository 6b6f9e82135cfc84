
/-
  Regions in the text's order.
-/
import Derived.Test.YtlboecjgelnabaaGreatDoorEvTen
import Derived.OrdersIn
namespace Go.Evl
open Go.RowKit

theorem evOps_cons (F : Oracle) (cx : Cx) (o : CO) (r : List CO) (e : Env) (m : Mem) :
    evOps F cx (o :: r) e m = (match evOp1 F cx e m o with
      | some (v, m') => evOps F cx r (put? e o.dst v) m'
      | none => none) := rfl

section
variable {P : Program} {oc : Codes} {gl : Globs}

def guardOk (ops : Array Oper) (nt : Nat) : Option (Nat × Bool) → Option (Nat × Bool) → Bool
  | none, none => true
  | some (t, w), some (j, w') => w == w' && (ops[j]?).bind (·.dst) == some t && decide (t < nt)
  | _, _ => false

def okCO (P : Program) (gl : Globs) (nt : Nat) (ops : Array Oper) (c : CO) (o : Oper) : Bool :=
  c.dst == o.dst && (match c.dst with | none => true | some d => decide (d < nt)) && guardOk ops nt c.guard o.guard &&
    (match c.op with
    | .call _ _ f args => okCall gl o f args
    | op => okOp P gl o op)

def okCOs (P : Program) (gl : Globs) (nt : Nat) (ops : Array Oper) : List CO → List Oper → Bool
  | [], [] => true
  | c :: r, o :: q => okCO P gl nt ops c o && okCOs P gl nt ops r q
  | _, _ => false

structure Good (P : Program) (oc : Codes) (gl : Globs) (F : Oracle) : Prop where
  call : GoodCall P oc gl F
  round : GoodRound P oc gl F

theorem sound_any {F : Oracle} (hF : Good P oc gl F) {s : S} {A : Act} {o : Oper} {e : Env} (hs : Sim oc gl s) (he : EnvR s e A.tmps) (r : Option Nat) (cx : Cx) (slot : Nat) {op : COp} {v : V} {m' : Mem}
    (ok : (match op with | .call _ _ f args => okCall gl o f args | op => okOp P gl o op) = true) (h : evOp F cx slot e s.m op = some (v, m')) : OpOk P oc gl r s A o v m' := by
  by_cases hc : ∃ a b f args, op = .call a b f args
  · obtain ⟨a, b, f, args, rfl⟩ := hc
    exact sound_call hF.call hF.round hs he r cx slot ok h
  · refine Does.ok (sound_op hs he F cx slot ?_ h)
    cases op <;> first | exact ok | exact absurd ⟨_, _, _, _, rfl⟩ hc

theorem sound_co {F : Oracle} (hF : Good P oc gl F) {s : S} {A : Act} {e : Env} (hs : Sim oc gl s) (he : EnvR s e A.tmps) (r : Option Nat) (cx : Cx) {nt : Nat} (hnt : nt ≤ A.tmps.size) {ops : Array Oper} {i : Nat} {c : CO} {o : Oper} (hi : ops[i]? = some o) {v : V} {m' : Mem}
    (ok : okCO P gl nt ops c o = true) (h : evOp1 F cx e s.m c = some (v, m')) {K : Act → World → Prop} {Q : Exit → Act → World → Prop}
    (hK : ∀ s' x, Sim oc gl s' → Ext (fun _ => True) s s' → s'.m = m' → VR s' v x → K (A.put o.dst x) s'.w) : wpOpIn (fen r) 0 P ops Q i K A s.w := by
  simp only [okCO, Bool.and_eq_true, beq_iff_eq] at ok
  obtain ⟨⟨⟨hd, hdt⟩, hg⟩, hop⟩ := ok
  unfold wpOpIn
  simp only [hi]
  have go : evOp F cx (c.dst.getD 0) e s.m c.op = some (v, m') → o.wpIn (fen r) 0 P A s.w K Q := fun h => sound_any hF hs he r cx _ hop h K Q hK
  have skip : v = .skip → m' = s.m → (∀ f, o.about P s.w A.eval = some f → (fen r).fn f) ∧ K (A.put o.dst undef) s.w := by
    rintro rfl rfl
    exact ⟨fun _ _ => trivial, hK s undef hs (Ext.refl _ _) rfl rfl⟩
  unfold evOp1 at h
  unfold guardOk at hg
  cases hcg : c.guard with
  | none =>
    rw [hcg] at h hg
    cases hog : o.guard with
    | none => simp only [Region.wanted, hog, if_true]; exact go h
    | some p => rw [hog] at hg; cases hg
  | some p =>
    obtain ⟨t, w⟩ := p
    rw [hcg] at h hg
    cases hog : o.guard with
    | none => rw [hog] at hg; cases hg
    | some q =>
      obtain ⟨j, w'⟩ := q
      rw [hog] at hg
      simp only [Bool.and_eq_true, beq_iff_eq, decide_eq_true_eq] at hg
      obtain ⟨⟨rfl, hj⟩, ht⟩ := hg
      have hlt : t < A.tmps.size := by omega
      have hval := he t
      simp only at h
      split at h
      · rename_i b hget
        rw [hget] at hval
        have hv : A.tmps.getD t undef = .bool b := hval
        have hv2 : A.tmps[t]? = some (.bool b) := by
          rw [Array.getD_eq_getD_getElem?] at hv
          simp [hlt] at hv ⊢; exact hv
        have hy : yielded ops A.tmps j = some b := by
          simp only [yielded, hj, Option.bind_some, hv2]
        have hw : Region.wanted o (yielded ops A.tmps) = (b == w) := by
          simp only [Region.wanted, hog, hy]; cases b <;> cases w <;> rfl
        rw [hw]
        split at h
        · rename_i e; subst e
          simp only [beq_self_eq_true, if_true]
          exact go h
        · rename_i e
          simp only [Option.some.injEq, Prod.mk.injEq] at h
          have : (b == w) = false := by simpa using e
          simp only [this, Bool.false_eq_true, if_false]
          exact skip h.1.symm h.2.symm
      · rename_i hget
        rw [hget] at hval
        have hv : A.tmps.getD t undef = undef := hval
        have hy : yielded ops A.tmps j = none := by
          simp only [yielded, hj, Option.bind_some]
          have : A.tmps[t]? = some undef := by
            rw [Array.getD_eq_getD_getElem?] at hv
            simp [hlt] at hv ⊢; exact hv
          rw [this]; rfl
        have hw : Region.wanted o (yielded ops A.tmps) = false := by
          simp only [Region.wanted, hog, hy]; rfl
        simp only [Option.some.injEq, Prod.mk.injEq] at h
        rw [hw]
        exact skip h.1.symm h.2.symm
      · cases h

theorem put_tmps (A : Act) (d : Option Nat) (x : Value) : (A.put d x).tmps.size = A.tmps.size ∧ (A.put d x).defers = A.defers := by
  cases d <;> simp [Act.put]

theorem put_get (A : Act) (d : Nat) (x : Value) (h : d < A.tmps.size) (t : Nat) : (A.put (some d) x).tmps.getD t undef = if d = t then x else A.tmps.getD t undef := by
  simp only [Act.put, Array.getD_eq_getD_getElem?, Array.getElem?_setIfInBounds]
  by_cases e : d = t
  · subst e; simp [h]
  · simp [e]

theorem envR_put {s : S} {e : Env} {A : Act} (he : EnvR s e A.tmps) (d : Option Nat) (hd : ∀ t, d = some t → t < A.tmps.size) {v : V} {x : Value} (hv : VR s v x) : EnvR s (put? e d v) (A.put d x).tmps := by
  cases d with
  | none => exact he
  | some d =>
    intro t
    rw [put_get A d x (hd d rfl) t]
    show VR s (get (put e d v) t) _
    by_cases h : d = t
    · subst h; rw [get_put_same]; simpa using hv
    · rw [get_put_other e d t v h]; simpa [h] using he t

theorem envR_filter {s : S} {e : Env} {tmps : Array Value} (p : Nat × V → Bool) (hp : ∀ t v v', p (t, v) = p (t, v')) (he : EnvR s e tmps) : EnvR s (e.filter p) tmps := by
  intro t
  rcases get_filter p hp e t with h | h
  · rw [h]; exact he t
  · rw [h]; trivial

theorem get_only (e : Env) (u : Nat) : ∀ (live : List Nat), get (only live e) u = get e u ∨ get (only live e) u = .undef
  | [] => .inr rfl
  | t :: r => by
    by_cases h : t = u
    · subst h; exact .inl (by simp [only, get])
    · have := get_only e u r
      simpa [only, get, h] using this
theorem envR_only {s : S} {e : Env} {tmps : Array Value} (live : List Nat) (he : EnvR s e tmps) : EnvR s (only live e) tmps := by
  intro t
  rcases get_only e t live with h | h
  · rw [h]; exact he t
  · rw [h]; trivial

theorem okCO_dst {nt : Nat} {ops : Array Oper} {c : CO} {o : Oper} (ok : okCO P gl nt ops c o = true) : c.dst = o.dst ∧ ∀ t, c.dst = some t → t < nt := by
  simp only [okCO, Bool.and_eq_true, beq_iff_eq] at ok
  refine ⟨ok.1.1.1, fun t ht => ?_⟩
  have := ok.1.1.2
  rw [ht] at this
  simpa using this

theorem ops_seq {F : Oracle} (hF : Good P oc gl F) (r : Option Nat) (cx : Cx) {nt : Nat} {ops : Array Oper} {Q : Exit → Act → World → Prop} :
    ∀ (cos : List CO) (os : List Oper) (i : Nat) (e e' : Env) (m' : Mem) (s : S) (A : Act), (∀ k, k < os.length → ops[i + k]? = os[k]?) → okCOs P gl nt ops cos os = true → evOps F cx cos e s.m = some (e', m') →
      Sim oc gl s → EnvR s e A.tmps → nt ≤ A.tmps.size →
      (∀ s' A', Sim oc gl s' → Ext (fun _ => True) s s' → s'.m = m' → EnvR s' e' A'.tmps → A'.tmps.size = A.tmps.size → A'.defers = A.defers → Q .normal A' s'.w) →
      wpOpsIn (fen r) 0 P ops Q (List.range' i os.length) A s.w
  | [], [], i, e, e', m', s, A, _, _, h, hs, he, hnt, hQ => by
    simp only [evOps, Option.some.injEq, Prod.mk.injEq] at h
    obtain ⟨rfl, rfl⟩ := h
    exact hQ s A hs (Ext.refl _ _) rfl he rfl rfl
  | [], _ :: _, _, _, _, _, _, _, _, ok, _, _, _, _, _ => by simp [okCOs] at ok
  | _ :: _, [], _, _, _, _, _, _, _, ok, _, _, _, _, _ => by simp [okCOs] at ok
  | c :: cos, o :: os, i, e, e', m', s, A, hops, ok, h, hs, he, hnt, hQ => by
    simp only [okCOs, Bool.and_eq_true] at ok
    rw [evOps_cons] at h
    split at h <;> try cases h
    rename_i v m1 h1
    have hi : ops[i]? = some o := by simpa using hops 0 (by simp)
    rw [List.length_cons, List.range'_succ, wpOpsIn_cons]
    obtain ⟨hd, hdt⟩ := okCO_dst ok.1
    refine sound_co hF hs he r cx hnt hi ok.1 h1 fun s1 x k1 k2 k3 k4 => ?_
    have hsz := put_tmps A o.dst x
    subst k3
    refine ops_seq hF r cx cos os (i + 1) _ e' m' s1 (A.put o.dst x) (fun k hk => ?_) ok.2 h k1 ?_ (by rw [hsz.1]; exact hnt) fun s' A' q1 q2 q3 q4 q5 q6 => ?_
    · have := hops (k + 1) (by simp; omega)
      rw [show i + 1 + k = i + (k + 1) by omega, this]
      simp
    · rw [hd]
      exact envR_put (EnvR.ext k2 (fun _ _ _ => trivial) he) o.dst (fun t ht => by have := hdt t (hd.trans ht); omega) k4
    · exact hQ s' A' q1 (Ext.trans k2 q2 (fun _ _ => trivial)) q3 q4 (q5.trans hsz.1) (q6.trans hsz.2)

end
end Go.Evl

