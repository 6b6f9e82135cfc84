
/-
  The evaluator however deep: an oracle that is its own next step, and says nothing that some depth does not say.
-/
import Derived.Test.YtlboecjgelnabaaGreatDoorEvSyn
namespace Go.Evl

def Le (F G : Oracle) : Prop := ∀ q r, F q = some r → G q = some r

/-- A rising row of oracles, and their limit. -/
structure Chain (It : Nat → Oracle) (E : Oracle) : Prop where
  up : ∀ n, Le (It n) (It (n + 1))
  lim : ∀ q r, E q = some r ↔ ∃ n, It n q = some r

theorem Chain.le {It : Nat → Oracle} {E : Oracle} (h : Chain It E) {n m : Nat} (hnm : n ≤ m) : Le (It n) (It m) := by
  induction hnm with
  | refl => exact fun _ _ h => h
  | step _ ih => exact fun q r hq => h.up _ q r (ih q r hq)

structure Cont {α : Type} (It : Nat → Oracle) (E : Oracle) (f : Oracle → Option α) : Prop where
  mono : ∀ F G, Le F G → ∀ r, f F = some r → f G = some r
  reach : ∀ r, f E = some r → ∃ n, f (It n) = some r

section
variable {It : Nat → Oracle} {E : Oracle} {α β : Type}

theorem Cont.const {f : Oracle → Option α} (h : ∀ F G, f F = f G) : Cont It E f :=
  ⟨fun F G _ _ hr => (h G F).trans hr, fun _ hr => ⟨0, (h _ E).trans hr⟩⟩

theorem Cont.query (hc : Chain It E) (q : Req) : Cont It E (fun F => F q) :=
  ⟨fun _ _ h r hr => h q r hr, fun r hr => (hc.lim q r).1 hr⟩

theorem Cont.bind (hc : Chain It E) {f : Oracle → Option α} {k : α → Oracle → Option β} (hf : Cont It E f) (hk : ∀ a, Cont It E (k a)) : Cont It E (fun F => (f F).bind fun a => k a F) := by
  refine ⟨fun F G h r hr => ?_, fun r hr => ?_⟩
  · obtain ⟨a, h1, h2⟩ := Option.bind_eq_some_iff.1 hr
    exact Option.bind_eq_some_iff.2 ⟨a, hf.mono F G h a h1, (hk a).mono F G h r h2⟩
  · obtain ⟨a, h1, h2⟩ := Option.bind_eq_some_iff.1 hr
    obtain ⟨n, hn⟩ := hf.reach a h1
    obtain ⟨k', hk'⟩ := (hk a).reach r h2
    refine ⟨max n k', Option.bind_eq_some_iff.2 ⟨a, hf.mono _ _ (hc.le (Nat.le_max_left _ _)) a hn, (hk a).mono _ _ (hc.le (Nat.le_max_right _ _)) r hk'⟩⟩

theorem Cont.of_eq {f g : Oracle → Option α} (h : ∀ F, f F = g F) (hg : Cont It E g) : Cont It E f := by
  have : f = g := funext h
  rw [this]; exact hg

theorem cont_ite {p : Prop} [Decidable p] {f g : Oracle → Option α} (hf : Cont It E f) (hg : Cont It E g) : Cont It E (fun F => if p then f F else g F) := by
  by_cases h : p
  · exact Cont.of_eq (fun F => if_pos h) hf
  · exact Cont.of_eq (fun F => if_neg h) hg

variable (hc : Chain It E)
include hc

theorem cont_callShared (cx : Cx) (f : V) (args : List V) (m : Mem) : Cont It E (fun F => callShared F cx f args m) := by
  cases f with
  | fn f first caps =>
    refine Cont.of_eq (g := fun F => (F (.call cx.nx f (first ++ args ++ caps) m)).bind fun r => match r with | .val v m' => some (v, m') | _ => none) (fun F => ?_) (Cont.bind hc (Cont.query hc _) fun r => Cont.const fun _ _ => rfl)
    simp only [callShared]
    cases F (.call cx.nx f (first ++ args ++ caps) m) with
    | none => rfl
    | some r => cases r <;> rfl
  | yld o =>
    refine Cont.of_eq (g := fun F => (F (.round cx.nx o args m)).bind fun r => match r with | .val v m' => some (v, m') | _ => none) (fun F => ?_) (Cont.bind hc (Cont.query hc _) fun r => Cont.const fun _ _ => rfl)
    simp only [callShared]
    cases F (.round cx.nx o args m) with
    | none => rfl
    | some r => cases r <;> rfl
  | _ => exact Cont.const fun _ _ => rfl

theorem cont_callV (cx : Cx) (slot : Nat) (shared imm : Bool) (f : V) (args : List V) (m : Mem) : Cont It E (fun F => callV F cx slot shared imm f args m) := by
  unfold callV
  refine cont_ite (cont_ite ?_ (Cont.const fun _ _ => rfl)) ?_
  · refine Cont.of_eq (g := fun F => (callShared F cx f args m).bind fun p => if allLow cx.nx (idsAll (belowLv cx.nx p.2)) then takeV cx slot cx.nx imm (belowLv cx.nx p.2) p.2 p.1 else none) (fun F => ?_) (Cont.bind hc (cont_callShared hc cx f args m) fun r => Cont.const fun _ _ => rfl)
    cases callShared F cx f args m <;> rfl
  · cases f with
    | fn f first caps =>
      dsimp only
      generalize freezeL false m (first ++ args ++ caps) = o
      cases o with
      | none => exact Cont.const fun _ _ => rfl
      | some ds =>
        refine Cont.of_eq (g := fun F => (F (.call 0 f (asV ds) [])).bind fun r => match r with | .val v m' => takeV cx slot 0 imm m m' v | _ => none) (fun F => ?_) (Cont.bind hc (Cont.query hc _) fun r => Cont.const fun _ _ => rfl)
        simp only
        cases F (.call 0 f (asV ds) []) with
        | none => rfl
        | some r => cases r <;> rfl
    | _ => exact Cont.const fun _ _ => rfl

theorem cont_evOp (cx : Cx) (slot : Nat) (e : Env) (m : Mem) (op : COp) : Cont It E (fun F => evOp F cx slot e m op) := by
  cases op with
  | call s i f args => exact cont_callV hc cx slot s i _ _ m
  | _ => exact Cont.const fun _ _ => rfl

theorem cont_evOp1 (cx : Cx) (e : Env) (m : Mem) (o : CO) : Cont It E (fun F => evOp1 F cx e m o) := by
  obtain ⟨dst, guard, op⟩ := o
  cases guard with
  | none => exact cont_evOp hc cx _ e m op
  | some g =>
    obtain ⟨t, want⟩ := g
    simp only [evOp1]
    split
    · split
      · exact cont_evOp hc cx _ e m op
      · exact Cont.const fun _ _ => rfl
    · exact Cont.const fun _ _ => rfl
    · exact Cont.const fun _ _ => rfl

theorem cont_evOps (cx : Cx) : ∀ (os : List CO) (e : Env) (m : Mem), Cont It E (fun F => evOps F cx os e m)
  | [], e, m => Cont.const fun _ _ => rfl
  | o :: r, e, m => by
    refine Cont.of_eq (g := fun F => (evOp1 F cx e m o).bind fun p => evOps F cx r (put? e o.dst p.1) p.2) (fun F => ?_) (Cont.bind hc (cont_evOp1 hc cx e m o) fun p => cont_evOps cx r _ _)
    simp only [evOps]
    cases evOp1 F cx e m o <;> rfl

def loopSt : Res → Option (Ex × Env × Mem)
  | .st x e' m' => some (x, e', m')
  | _ => none

def rangeEnd (cx : Cx) (i : Id) (e : Env) : Res → Option (Ex × Env × Mem)
  | .val _ m' =>
    match look m' i with
    | some (.loop _ _ _ _ _ false _ j) =>
      if allLow cx.nx (idsAll (belowLv cx.nx m')) then
        let m2 := upd (belowLv cx.nx m') i .gone
        match j with
        | none => some (.normal, e, m2)
        | some j => some (j.ex, e, m2)
      else none
    | _ => none
  | _ => none

theorem cont_evC (cx : Cx) : ∀ (c : C) (e : Env) (m : Mem), Cont It E (fun F => evC F cx c e m)
  | .skip, e, m => Cont.const fun _ _ => rfl
  | .label, e, m => Cont.const fun _ _ => rfl
  | .exit _, e, m => Cont.const fun _ _ => rfl
  | .ret, e, m => Cont.const fun _ _ => rfl
  | .scope c, e, m => by simp only [evC]; exact cont_evC cx c e m
  | .reg _ ops kill, e, m => by
    refine Cont.of_eq (g := fun F => (evOps F cx ops e m).bind fun p => some (.normal, without kill p.1, p.2)) (fun F => ?_) (Cont.bind hc (cont_evOps hc cx ops e m) fun p => Cont.const fun _ _ => rfl)
    simp only [evC]
    cases evOps F cx ops e m <;> rfl
  | .seq a b, e, m => by
    refine Cont.of_eq (g := fun F => (evC F cx a e m).bind fun p => match p with | (.normal, e', m') => evC F cx b e' m' | p => some p) (fun F => ?_) (Cont.bind hc (cont_evC cx a e m) fun p => ?_)
    · simp only [evC]
      cases evC F cx a e m with
      | none => rfl
      | some p => obtain ⟨x, e', m'⟩ := p; cases x <;> rfl
    · obtain ⟨x, e', m'⟩ := p
      cases x with
      | normal => exact cont_evC cx b e' m'
      | _ => exact Cont.const fun _ _ => rfl
  | .cond c a b, e, m => by
    simp only [evC]
    split
    · exact cont_ite (cont_evC cx a e m) (cont_evC cx b e m)
    · exact Cont.const fun _ _ => rfl
  | .block id c, e, m => by
    refine Cont.of_eq (g := fun F => (evC F cx c e m).bind fun p => match p with | (.exit j, e', m') => if j = id then some (.normal, e', m') else some (.exit j, e', m') | p => some p) (fun F => ?_) (Cont.bind hc (cont_evC cx c e m) fun p => Cont.const fun _ _ => rfl)
    simp only [evC]
    cases evC F cx c e m with
    | none => rfl
    | some p => obtain ⟨x, e', m'⟩ := p; cases x <;> rfl
  | .loop live c, e, m => by
    refine Cont.of_eq (g := fun F => (F (.loop cx live (keys m) c (only live e) (gc (keys m) (only live e) m))).bind loopSt) (fun F => ?_) (Cont.bind hc (Cont.query hc _) fun p => Cont.const fun _ _ => rfl)
    simp only [evC]
    cases F (.loop cx live (keys m) c (only live e) (gc (keys m) (only live e) m)) with
    | none => rfl
    | some r => cases r <;> rfl
  | .rangeFn slot f ps a b, e, m => by
    simp only [evC]
    refine cont_ite ?_ (Cont.const fun _ _ => rfl)
    cases f.ev e with
    | fn g first caps =>
      refine Cont.of_eq (g := fun F => (F (.call cx.nx g (first ++ [.yld (newId cx slot m)] ++ caps) (upd m (newId cx slot m) (.loop e ps a b cx.lv false false none)))).bind (rangeEnd cx (newId cx slot m) e)) (fun F => ?_) (Cont.bind hc (Cont.query hc _) fun p => Cont.const fun _ _ => rfl)
      simp only
      cases F (.call cx.nx g (first ++ [.yld (newId cx slot m)] ++ caps) (upd m (newId cx slot m) (.loop e ps a b cx.lv false false none))) with
      | none => rfl
      | some r => cases r <;> rfl
    | _ => exact Cont.const fun _ _ => rfl

theorem cont_step (Γ : Nat → Option CF) (X : Extern) (q : Req) : Cont It E (fun F => step Γ X F q) := by
  cases q with
  | call lv f args m =>
    simp only [step]
    cases X f with
    | some x => exact Cont.const fun _ _ => rfl
    | none =>
      cases Γ f with
      | none => exact Cont.const fun _ _ => rfl
      | some cf =>
        refine Cont.of_eq (g := fun F => (evC F ⟨lv, lv + 1⟩ cf.body (params 0 args) m).bind fun p => match p with | (.normal, e, m') => (results m' e cf.results).map fun v => .val v m' | (.ret, e, m') => (results m' e cf.results).map fun v => .val v m' | _ => none) (fun F => ?_) (Cont.bind hc (cont_evC hc _ _ _ _) fun p => Cont.const fun _ _ => rfl)
        simp only
        cases evC F ⟨lv, lv + 1⟩ cf.body (params 0 args) m with
        | none => rfl
        | some p => obtain ⟨x, e', m'⟩ := p; cases x <;> rfl
  | round nx o args m =>
    simp only [step]
    split
    · rename_i e ps a b lv j hl
      refine cont_ite ?_ (Cont.const fun _ _ => rfl)
      refine Cont.of_eq (g := fun F => (evC F ⟨lv, nx⟩ a (zipP ps args e) m).bind fun p => match p with
        | (.normal, e1, m1) => (match look m1 o with
          | some (.loop e' ps' a' b' lv' false false j') => (evC F ⟨lv, nx⟩ b e1 (upd m1 o (.loop e' ps' a' b' lv' true false j'))).bind fun p => match p with
            | (x, _, m2) => match look m2 o with
              | some (.loop e' ps' a' b' lv' true false _) => (match x with
                | .normal => some (.val (.d (.bool true)) (gc (keys m) [] (upd m2 o (.loop e' ps' a' b' lv' false false none))))
                | .exit id => some (.val (.d (.bool false)) (upd m2 o (.loop e' ps' a' b' lv' false true (some (.exit id)))))
                | .ret => some (.val (.d (.bool false)) (upd m2 o (.loop e' ps' a' b' lv' false true (some .ret)))))
              | _ => none
          | _ => none)
        | _ => none) (fun F => ?_) (Cont.bind hc (cont_evC hc _ _ _ _) fun p => ?_)
      · simp only
        cases evC F ⟨lv, nx⟩ a (zipP ps args e) m with
        | none => rfl
        | some p =>
          obtain ⟨x, e', m'⟩ := p
          cases x with
          | normal =>
            simp only [Option.bind]
            split
            · rename_i e2 ps2 a2 b2 lv2 j2 hlk
              simp only [hlk]
              cases evC F ⟨lv, nx⟩ b e' (upd m' o (.loop e2 ps2 a2 b2 lv2 true false j2)) with
              | none => rfl
              | some p => rfl
            · rename_i hno
              split
              · rename_i hlk
                exact absurd hlk (hno _ _ _ _ _ _)
              · rfl
          | exit id => rfl
          | ret => rfl
      · obtain ⟨x, e1, m1⟩ := p
        cases x with
        | normal =>
          simp only
          split
          · exact Cont.bind hc (cont_evC hc _ _ _ _) fun p => Cont.const fun _ _ => rfl
          · exact Cont.const fun _ _ => rfl
        | _ => exact Cont.const fun _ _ => rfl
    · exact Cont.const fun _ _ => rfl
  | loop cx live keep body e m =>
    simp only [step]
    refine Cont.of_eq (g := fun F => (evC F cx body e m).bind fun p => match p with | (.normal, e', m') => F (.loop cx live keep body (only live e') (gc keep (only live e') m')) | (x, e', m') => some (.st x e' m')) (fun F => ?_) (Cont.bind hc (cont_evC hc _ _ _ _) fun p => ?_)
    · cases evC F cx body e m with
      | none => rfl
      | some p => obtain ⟨x, e', m'⟩ := p; cases x <;> rfl
    · obtain ⟨x, e', m'⟩ := p
      cases x with
      | normal => exact Cont.query hc _
      | _ => exact Cont.const fun _ _ => rfl

end

/-- WHAT SERVES FOR EVERY DEPTH: each answer is the next step's, and some depth gives it. -/
structure Lim (Γ : Nat → Option CF) (X : Extern) (E : Oracle) : Prop where
  fix : ∀ q, E q = step Γ X E q
  reach : ∀ q r, E q = some r → ∃ n, iter Γ X n q = some r

theorem step_mono {Γ : Nat → Option CF} {X : Extern} {F G : Oracle} (h : Le F G) : Le (step Γ X F) (step Γ X G) := by
  have hc : Chain (fun _ => G) G := ⟨fun _ _ _ h => h, fun _ _ => ⟨fun h => ⟨0, h⟩, fun h => h.elim fun _ h => h⟩⟩
  exact fun q r hr => (cont_step hc Γ X q).mono F G h r hr

theorem iter_up (Γ : Nat → Option CF) (X : Extern) : ∀ n, Le (iter Γ X n) (iter Γ X (n + 1))
  | 0 => fun _ _ h => by simp [iter] at h
  | n + 1 => step_mono (iter_up Γ X n)

theorem exists_lim (Γ : Nat → Option CF) (X : Extern) : ∃ E, Lim Γ X E := by
  have hd : ∀ q : Req, ∃ a : Option Res, ∀ r, a = some r ↔ ∃ n, iter Γ X n q = some r := by
    intro q
    by_cases h : ∃ r, ∃ n, iter Γ X n q = some r
    · obtain ⟨r, n, hn⟩ := h
      refine ⟨some r, fun r' => ⟨fun h => ⟨n, by rw [hn, h]⟩, fun ⟨k, hk⟩ => ?_⟩⟩
      have up : ∀ a b, a ≤ b → Le (iter Γ X a) (iter Γ X b) := by
        intro a b hab
        induction hab with
        | refl => exact fun _ _ h => h
        | step _ ih => exact fun q r hq => iter_up Γ X _ q r (ih q r hq)
      rw [← up n (max n k) (Nat.le_max_left _ _) q r hn, up k (max n k) (Nat.le_max_right _ _) q r' hk]
    · exact ⟨none, fun r => ⟨fun h => (nomatch h), fun hn => absurd ⟨r, hn⟩ h⟩⟩
  have ⟨E, hE⟩ := Classical.axiomOfChoice hd
  have hc : Chain (iter Γ X) E := ⟨iter_up Γ X, hE⟩
  refine ⟨E, ⟨fun q => ?_, fun q r h => (hE q r).1 h⟩⟩
  apply Option.ext
  intro r
  constructor
  · intro h
    obtain ⟨n, hn⟩ := (hE q r).1 h
    cases n with
    | zero => simp [iter] at hn
    | succ n => exact step_mono (fun q r h => (hE q r).2 ⟨n, h⟩) q r hn
  · intro h
    obtain ⟨n, hn⟩ := (cont_step hc Γ X q).reach r h
    exact (hE q r).2 ⟨n + 1, hn⟩

/-- A depth that the kernel has computed. -/
theorem Lim.of_iter {Γ : Nat → Option CF} {X : Extern} {E : Oracle} (h : Lim Γ X E) : ∀ (n : Nat) (q : Req) (r : Res), iter Γ X n q = some r → E q = some r
  | 0, _, _, hn => by simp [iter] at hn
  | n + 1, q, r, hn => by
    rw [h.fix]
    exact step_mono (fun q r => h.of_iter n q r) q r hn

end Go.Evl

