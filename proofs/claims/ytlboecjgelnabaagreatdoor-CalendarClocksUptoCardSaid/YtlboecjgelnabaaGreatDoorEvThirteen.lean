
/-
  Regions that draw their order: whatever the order, the end is that of the text's order.
-/
import Derived.Test.YtlboecjgelnabaaGreatDoorEvMono
namespace Go.Evl
open Go.RowKit

def mask1 (acc : List Nat) (o : Oper) : Nat := o.after.toList.foldl (fun m e => if Region.binds .any e then m ||| ((1 <<< e.on) ||| acc.getD e.on 0) else m) 0

def masks : List Oper → List Nat → List Nat
  | [], acc => acc
  | o :: r, acc => masks r (acc ++ [mask1 acc o])

def okDraw (ops : Array Oper) (cos : List CO) : Bool :=
  let ms := masks ops.toList []
  (List.range cos.length).all fun i =>
    match cos[i]?, ops[i]? with
    | some c, some o =>
      o.after.toList.all (fun e => !Region.binds .any e || decide (e.on < i)) &&
      (List.range cos.length).all fun j =>
        match cos[j]? with
        | some d =>
          (decide (i = j) || d.dst.isNone || d.dst != c.dst) &&
          (match d.dst with
            | some t => !(reads1 c).elem t || (decide (j < i) && (ms.getD i 0).testBit j) || (decide (i = j) || (decide (i < j) && (ms.getD j 0).testBit i))
            | none => true) &&
          (!decide (j < i) || cls c.op == 0 || cls d.op == 0 || (cls d.op == 1 && cls c.op != 2) || (ms.getD i 0).testBit j)
        | none => false
    | _, _ => false

def Closed (ops : Array Oper) (p : Nat → Prop) : Prop := ∀ i o e, ops[i]? = some o → p i → e ∈ o.after → Region.binds .any e = true → p e.on
def Needs (ops : Array Oper) (i a : Nat) : Prop := ∀ p, Closed ops p → p i → p a

theorem mask_fold (acc : List Nat) (a : Nat) : ∀ (l : List Edge) (m : Nat), (l.foldl (fun m e => if Region.binds .any e then m ||| ((1 <<< e.on) ||| acc.getD e.on 0) else m) m).testBit a = true →
    m.testBit a = true ∨ ∃ e ∈ l, Region.binds .any e = true ∧ (a = e.on ∨ (acc.getD e.on 0).testBit a = true)
  | [], m, h => .inl h
  | e :: r, m, h => by
    simp only [List.foldl_cons] at h
    rcases mask_fold acc a r _ h with h | ⟨e', h1, h2⟩
    · split at h
      · rename_i hb
        simp only [Nat.testBit_or, Bool.or_eq_true] at h
        rcases h with h | h | h
        · exact .inl h
        · refine .inr ⟨e, by simp, hb, .inl ?_⟩
          simp only [Nat.testBit_shiftLeft, Bool.and_eq_true, decide_eq_true_eq, Nat.testBit_one_eq_true_iff_self_eq_zero] at h
          omega
        · exact .inr ⟨e, by simp, hb, .inr h⟩
      · exact .inl h
    · exact .inr ⟨e', by simp [h1], h2⟩

theorem masks_ok {ops : Array Oper} : ∀ (os : List Oper) (acc : List Nat), (∀ i a, (acc.getD i 0).testBit a = true → Needs ops i a) → (∀ k, k < os.length → os[k]? = ops[acc.length + k]?) → ∀ i a, ((masks os acc).getD i 0).testBit a = true → Needs ops i a
  | [], acc, h, _ => h
  | o :: r, acc, h, ho => by
    refine masks_ok r (acc ++ [mask1 acc o]) (fun i a hb => ?_) (fun k hk => ?_)
    · have ho0 : ops[acc.length]? = some o := by simpa using (ho 0 (by simp)).symm
      rcases Nat.lt_trichotomy i acc.length with hi | hi | hi
      · rw [List.getD_eq_getElem?_getD, List.getElem?_append_left hi, ← List.getD_eq_getElem?_getD] at hb
        exact h i a hb
      · subst hi
        rw [List.getD_eq_getElem?_getD, List.getElem?_append_right (Nat.le_refl _)] at hb
        simp only [Nat.sub_self, List.getElem?_cons_zero, Option.getD_some, mask1] at hb
        rcases mask_fold acc a _ 0 hb with hb | ⟨e, he, hbd, hb⟩
        · simp at hb
        · intro p hp hi
          have h1 := hp _ o e ho0 hi (by simpa using he) hbd
          rcases hb with rfl | hb
          · exact h1
          · exact h e.on a hb p hp h1
      · rw [List.getD_eq_getElem?_getD, List.getElem?_eq_none (by simp; omega)] at hb
        simp at hb
    · have := ho (k + 1) (by simp; omega)
      simp only [List.getElem?_cons_succ] at this
      rw [this, List.length_append, List.length_singleton]
      congr 1; omega

/-! ### The trace -/

structure Trace (F : Oracle) (cx : Cx) (cos : List CO) (E : Nat → Env) (M : Nat → Mem) (W : Nat → V) : Prop where
  val : ∀ i c, cos[i]? = some c → evOp1 F cx (E i) (M i) c = some (W i, M (i + 1))
  env : ∀ i c, cos[i]? = some c → E (i + 1) = put? (E i) c.dst (W i)

theorem trace_of {F : Oracle} {cx : Cx} : ∀ (cos : List CO) (e e' : Env) (m m' : Mem), evOps F cx cos e m = some (e', m') → ∃ E M W, Trace F cx cos E M W ∧ E 0 = e ∧ M 0 = m ∧ E cos.length = e' ∧ M cos.length = m'
  | [], e, e', m, m', h => by
    simp only [evOps, Option.some.injEq, Prod.mk.injEq] at h
    obtain ⟨rfl, rfl⟩ := h
    exact ⟨fun _ => e, fun _ => m, fun _ => .undef, ⟨fun i c h => by simp at h, fun i c h => by simp at h⟩, rfl, rfl, rfl, rfl⟩
  | c :: r, e, e', m, m', h => by
    rw [evOps_cons] at h
    split at h <;> try cases h
    rename_i v m1 h1
    obtain ⟨E, M, W, hT, hE, hM, hE', hM'⟩ := trace_of r _ e' m1 m' h
    refine ⟨fun i => match i with | 0 => e | i + 1 => E i, fun i => match i with | 0 => m | i + 1 => M i, fun i => match i with | 0 => v | i + 1 => W i, ⟨fun i d hd => ?_, fun i d hd => ?_⟩, rfl, rfl, hE', hM'⟩
    · cases i with
      | zero => simp at hd; subst hd; simpa [hM] using h1
      | succ i => exact hT.val i d (by simpa using hd)
    · cases i with
      | zero => simp at hd; subst hd; simpa using hE
      | succ i => exact hT.env i d (by simpa using hd)

section
variable {F : Oracle} {cx : Cx} {cos : List CO} {E : Nat → Env} {M : Nat → Mem} {W : Nat → V}

theorem Trace.same (hT : Trace F cx cos E M W) (t : Nat) (a : Nat) : ∀ b, a ≤ b → b ≤ cos.length → (∀ k c, a ≤ k → k < b → cos[k]? = some c → c.dst ≠ some t) → get (E b) t = get (E a) t := by
  intro b
  induction b with
  | zero => intro h _ _; obtain rfl : a = 0 := by omega
            rfl
  | succ b ih =>
    intro hab hb hk
    rcases Nat.lt_or_ge b a with h | h
    · obtain rfl : a = b + 1 := by omega
      rfl
    · obtain ⟨c, hc⟩ : ∃ c, cos[b]? = some c := ⟨_, List.getElem?_eq_getElem (by omega)⟩
      rw [hT.env b c hc]
      have hne := hk b c h (by omega) hc
      have : get (put? (E b) c.dst (W b)) t = get (E b) t := by
        cases hd : c.dst with
        | none => rfl
        | some d => exact get_put_other _ _ _ _ (fun e => hne (by rw [hd, e]))
      rw [this]
      exact ih h (by omega) fun k c h1 h2 => hk k c h1 (by omega)

theorem Trace.mem (hT : Trace F cx cos E M W) (a : Nat) : ∀ b, a ≤ b → b ≤ cos.length → (∀ k c, a ≤ k → k < b → cos[k]? = some c → cls c.op ≤ 1) → M b = M a := by
  intro b
  induction b with
  | zero => intro h _ _; obtain rfl : a = 0 := by omega
            rfl
  | succ b ih =>
    intro hab hb hk
    rcases Nat.lt_or_ge b a with h | h
    · obtain rfl : a = b + 1 := by omega
      rfl
    · obtain ⟨c, hc⟩ : ∃ c, cos[b]? = some c := ⟨_, List.getElem?_eq_getElem (by omega)⟩
      rw [cls1' (hk b c h (by omega) hc) (hT.val b c hc)]
      exact ih h (by omega) fun k c h1 h2 => hk k c h1 (by omega)

theorem Trace.sub (hT : Trace F cx cos E M W) (a : Nat) : ∀ b, a ≤ b → b ≤ cos.length → (∀ k c, a ≤ k → k < b → cos[k]? = some c → cls c.op ≤ 1 ∨ cls c.op = 3) → Sub (M a) (M b) := by
  intro b
  induction b with
  | zero => intro h _ _; obtain rfl : a = 0 := by omega
            exact fun _ _ h => h
  | succ b ih =>
    intro hab hb hk
    rcases Nat.lt_or_ge b a with h | h
    · obtain rfl : a = b + 1 := by omega
      exact fun _ _ h => h
    · obtain ⟨c, hc⟩ : ∃ c, cos[b]? = some c := ⟨_, List.getElem?_eq_getElem (by omega)⟩
      have h1 := ih h (by omega) fun k c h1 h2 => hk k c h1 (by omega)
      rcases hk b c h (by omega) hc with hl | hl
      · rw [cls1' hl (hT.val b c hc)]; exact h1
      · exact fun i o hi => cls3_sub hl (hT.val b c hc) i o (h1 i o hi)

theorem Trace.wrote (hT : Trace F cx cos E M W) {t j : Nat} {d : CO} (hd : cos[j]? = some d) (hdt : d.dst = some t) (huniq : ∀ k c, cos[k]? = some c → c.dst = some t → k = j) {i : Nat} (hi : j < i) (hn : i ≤ cos.length) : get (E i) t = W j := by
  rw [hT.same t (j + 1) i (by omega) hn fun k c h1 h2 hc he => by have := huniq k c hc he; omega]
  rw [hT.env j d hd, hdt]
  exact get_put_same _ _ _
end
end Go.Evl

