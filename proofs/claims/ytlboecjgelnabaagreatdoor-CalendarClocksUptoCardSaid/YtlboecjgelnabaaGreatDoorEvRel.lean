
/-
  How the evaluator's values and memory stand for the model's: the relations, and that they outlast what a step does.
-/
import Derived.Test.YtlboecjgelnabaaGreatDoorEvSyn
import Derived.CallsIn
import Derived.Below
import Derived.Laws.AppendOwn
import Derived.Deep.Draws
namespace Go.Evl
open Go.RowKit

/-- A state of both sides: what an object's name stands for, the evaluator's memory, the world, the cells that nobody will write any more. -/
structure S where
  φ : Id → Value
  m : Mem
  w : World
  Im : Nat → Nat → Prop

def one (v : Value) : Prop := v.oneCell' = true

mutual
def DR (w : World) (Im : Nat → Nat → Prop) : D → Value → Prop
  | .int k n, v => v = .int k n
  | .bool b, v => v = .bool b
  | .str s, v => v = .string ⟨s.toArray⟩
  | .nil, v => ∃ a, v = .slice a 0 0
  | .list n cs, v => ∃ a cap, v = .slice a n cap ∧ n ≤ cap ∧ ((n = 0 ∧ cs = []) ∨ ∃ b o, a = some ⟨b, o, none⟩ ∧ CR w Im b o cs)
  | .agg cs, v => ∃ xs, v = .agg xs ∧ DRs w Im cs xs.toList
  | .nilp, v => v = .pointer none
  | .nilf, v => v = .nilFunc
  | .nili, v => v = .nilIface
  | .nilm, v => v = .map none
def CR (w : World) (Im : Nat → Nat → Prop) (b o : Nat) : List D → Prop
  | [] => True
  | d :: r => Im b o ∧ (∃ x, w.cell? ⟨b, o, none⟩ = some x ∧ one x ∧ DR w Im d x) ∧ CR w Im b (o + 1) r
def DRs (w : World) (Im : Nat → Nat → Prop) : List D → List Value → Prop
  | [], xs => xs = []
  | d :: r, xs => ∃ x ys, xs = x :: ys ∧ one x ∧ DR w Im d x ∧ DRs w Im r ys
end

/-- The block that an object's value names. -/
def blk : Value → Option Nat
  | .pointer (some a) => some a.block
  | .slice (some a) _ _ => some a.block
  | .map (some b) => some b
  | _ => none

def RefR (p : Value) (off len top : Nat) (v : Value) : Option Ob → Prop
  | some (.row _ _ sz n _) => top ≤ n ∧ (n = top → (off = 0 ∧ len = n ∧ v = p) ∨
      (¬ (off = 0 ∧ len = n) ∧ ∃ b cap capp, p = .slice (some ⟨b, 0, none⟩) n capp ∧ off + len ≤ n ∧ off + cap ≤ capp ∧ len ≤ cap ∧ v = .slice (some ⟨b, off * sz, none⟩) len cap) ∨
      (¬ (off = 0 ∧ len = n) ∧ off ≤ n ∧ len = 0 ∧ ∃ a c, v = .slice a 0 c))
  | some .gone => True
  | _ => False

def PtrR (p : Value) (off top : Nat) (v : Value) : Option Ob → Prop
  | some (.cells ..) => ∃ b, p = .pointer (some ⟨b, 0, none⟩) ∧ v = .pointer (some ⟨b, off, none⟩)
  | some (.row _ _ _ n _) => top ≤ n ∧ (n = top → ∃ b cap, p = .slice (some ⟨b, 0, none⟩) n cap ∧ v = .pointer (some ⟨b, off, none⟩))
  | some .gone => True
  | _ => False

def YldR (p : Value) (v : Value) : Option Ob → Prop
  | some (.loop ..) => ∃ l, p = .pointer (some ⟨l, 0, none⟩) ∧ v = .func (.yield l) #[] #[]
  | some .gone => True
  | _ => False

def MpR (p : Value) (v : Value) : Option Ob → Prop
  | some (.map _) => v = p
  | some .gone => True
  | _ => False

def ItR (p : Value) (v : Value) : Option Ob → Prop
  | some (.iter ..) => v = p
  | some .gone => True
  | _ => False

mutual
def VR (s : S) : V → Value → Prop
  | .d x, v => DR s.w s.Im x v
  | .agg cs, v => ∃ xs, v = .agg xs ∧ VRs s cs xs.toList
  | .tup cs, v => ∃ xs, v = .tuple xs ∧ VRt s cs xs.toList
  | .ref o off len top, v => one v ∧ RefR (s.φ o) off len top v (look s.m o)
  | .ptr o off top, v => one v ∧ PtrR (s.φ o) off top v (look s.m o)
  | .lptr cs off, v => ∃ b o, v = .pointer (some ⟨b, o + off, none⟩) ∧ CR s.w s.Im b o cs
  | .fn f a b, v => ∃ xs ys, v = .func (.func f) xs ys ∧ VRt s a xs.toList ∧ VRt s b ys.toList
  | .yld o, v => one v ∧ YldR (s.φ o) v (look s.m o)
  | .mp o, v => one v ∧ MpR (s.φ o) v (look s.m o)
  | .it o, v => one v ∧ ItR (s.φ o) v (look s.m o)
  | .skip, v => v = undef
  | .undef, _ => True
def VRs (s : S) : List V → List Value → Prop
  | [], xs => xs = []
  | d :: r, xs => ∃ x ys, xs = x :: ys ∧ one x ∧ VR s d x ∧ VRs s r ys
def VRt (s : S) : List V → List Value → Prop
  | [], xs => xs = []
  | d :: r, xs => ∃ x ys, xs = x :: ys ∧ VR s d x ∧ VRt s r ys
end

/-! ### What outlasts a step -/

/-- 'o' has become 'o'', its value 'p' has become 'p''. -/
def Turned : Ob → Ob → Value → Value → Prop
  | .cells t a, .cells u b, p, q => q = p ∧ u = t ∧ b.length = a.length
  | .row wr t sz n _, .row wr' t' sz' n' _, p, q => wr' = wr ∧ t' = t ∧ sz' = sz ∧ n ≤ n' ∧ (n' = n → q = p)
  | .map _, .map _, p, q => q = p
  | .iter .., .iter .., p, q => q = p
  | .loop .., .loop .., p, q => q = p
  | _, .gone, _, _ => True
  | _, _, _, _ => False

/-- No living object lies in block 'b'. -/
def Free (s : S) (b : Nat) : Prop := ∀ i o, look s.m i = some o → o ≠ .gone → blk (s.φ i) ≠ some b

structure Ext (K : Id → Prop) (s s' : S) : Prop where
  os : s'.w.os = s.w.os
  tape : s'.w.tape = s.w.tape
  output : s'.w.output = s.w.output
  size : s.w.heap.size ≤ s'.w.heap.size
  frame : ∀ b, b < s.w.heap.size → Free s b → s'.w.heap[b]? = s.w.heap[b]? ∧ Free s' b
  imnew : ∀ b j, s'.Im b j → s.Im b j ∨ s.w.heap.size ≤ b ∨ ¬ Free s b
  im : ∀ b j, s.Im b j → s'.Im b j
  keep : ∀ b j, s.Im b j → s'.w.cell? ⟨b, j, none⟩ = s.w.cell? ⟨b, j, none⟩
  objs : ∀ i o, K i → look s.m i = some o → ∃ o', look s'.m i = some o' ∧ Turned o o' (s.φ i) (s'.φ i)

/-- What values ask for. -/
structure Ext0 (K : Id → Prop) (s s' : S) : Prop where
  im : ∀ b j, s.Im b j → s'.Im b j
  keep : ∀ b j, s.Im b j → s'.w.cell? ⟨b, j, none⟩ = s.w.cell? ⟨b, j, none⟩
  objs : ∀ i o, K i → look s.m i = some o → ∃ o', look s'.m i = some o' ∧ Turned o o' (s.φ i) (s'.φ i)

theorem Ext.to0 {K : Id → Prop} {s s' : S} (h : Ext K s s') : Ext0 K s s' := ⟨h.im, h.keep, h.objs⟩

theorem Turned.refl : ∀ (o : Ob) (p : Value), Turned o o p p := by
  intro o p; cases o <;> simp [Turned]

theorem Turned.trans {a b c : Ob} {p q r : Value} (h : Turned a b p q) (k : Turned b c q r) : Turned a c p r := by
  cases a <;> cases b <;> simp [Turned] at h <;> cases c <;> simp [Turned] at k ⊢
  all_goals first | (obtain ⟨h1, h2, h3⟩ := h; obtain ⟨k1, k2, k3⟩ := k; exact ⟨k1.trans h1, k2.trans h2, k3.trans h3⟩) | skip
  all_goals first | (exact k.trans h) | skip
  · obtain ⟨rfl, rfl, rfl, h1, h2⟩ := h
    obtain ⟨rfl, rfl, rfl, k1, k2⟩ := k
    refine ⟨rfl, rfl, rfl, by omega, fun e => ?_⟩
    rw [k2 (by omega), h2 (by omega)]

theorem Ext.refl (K : Id → Prop) (s : S) : Ext K s s :=
  ⟨rfl, rfl, rfl, Nat.le_refl _, fun _ _ h => ⟨rfl, h⟩, fun _ _ h => .inl h, fun _ _ h => h, fun _ _ _ => rfl, fun _ o _ h => ⟨o, h, Turned.refl _ _⟩⟩

theorem Ext.trans {K K' : Id → Prop} {a b c : S} (h : Ext K a b) (k : Ext K' b c) (hK : ∀ i, K i → K' i) : Ext K a c := by
  refine ⟨k.os.trans h.os, k.tape.trans h.tape, k.output.trans h.output, Nat.le_trans h.size k.size, fun x hx hf => ?_, fun x j hi => ?_,
    fun x j hi => k.im _ _ (h.im _ _ hi), fun x j hi => (k.keep _ _ (h.im _ _ hi)).trans (h.keep _ _ hi), fun i o hi ho => ?_⟩
  · obtain ⟨h1, h2⟩ := h.frame x hx hf
    obtain ⟨k1, k2⟩ := k.frame x (Nat.lt_of_lt_of_le hx h.size) h2
    exact ⟨k1.trans h1, k2⟩
  · rcases k.imnew x j hi with h1 | h1 | h1
    · exact h.imnew x j h1
    · exact .inr (.inl (Nat.le_trans h.size h1))
    · rcases Nat.lt_or_ge x a.w.heap.size with hlt | hge
      · exact .inr (.inr fun hf => h1 (h.frame x hlt hf).2)
      · exact .inr (.inl hge)
  · obtain ⟨o1, h1, t1⟩ := h.objs i o hi ho
    obtain ⟨o2, h2, t2⟩ := k.objs i o1 (hK i hi) h1
    exact ⟨o2, h2, t1.trans t2⟩

theorem Ext.mono {K K' : Id → Prop} {a b : S} (h : Ext K a b) (hK : ∀ i, K' i → K i) : Ext K' a b :=
  ⟨h.os, h.tape, h.output, h.size, h.frame, h.imnew, h.im, h.keep, fun i o hi ho => h.objs i o (hK i hi) ho⟩

section
variable {w w' : World} {Im Im' : Nat → Nat → Prop}

mutual
theorem DR.ext (hi : ∀ b j, Im b j → Im' b j) (hk : ∀ b j, Im b j → w'.cell? ⟨b, j, none⟩ = w.cell? ⟨b, j, none⟩) : ∀ (d : D) (v : Value), DR w Im d v → DR w' Im' d v
  | .int .., _, h => by simpa only [DR] using h
  | .bool _, _, h => by simpa only [DR] using h
  | .str _, _, h => by simpa only [DR] using h
  | .nil, _, h => by simpa only [DR] using h
  | .nilp, _, h => by simpa only [DR] using h
  | .nilf, _, h => by simpa only [DR] using h
  | .nili, _, h => by simpa only [DR] using h
  | .nilm, _, h => by simpa only [DR] using h
  | .list n cs, v, h => by
    simp only [DR] at h ⊢
    obtain ⟨a, cap, hv, hc, h⟩ := h
    refine ⟨a, cap, hv, hc, ?_⟩
    rcases h with h | ⟨b, o, ha, h⟩
    · exact .inl h
    · exact .inr ⟨b, o, ha, CR.ext hi hk b o cs h⟩
  | .agg cs, v, h => by
    simp only [DR] at h ⊢
    obtain ⟨xs, hv, h⟩ := h
    exact ⟨xs, hv, DRs.ext hi hk cs _ h⟩
theorem CR.ext (hi : ∀ b j, Im b j → Im' b j) (hk : ∀ b j, Im b j → w'.cell? ⟨b, j, none⟩ = w.cell? ⟨b, j, none⟩) (b o : Nat) : ∀ (cs : List D), CR w Im b o cs → CR w' Im' b o cs
  | [], _ => by simp only [CR]
  | d :: r, h => by
    simp only [CR] at h ⊢
    obtain ⟨h1, ⟨x, h2, h3, h4⟩, h5⟩ := h
    exact ⟨hi _ _ h1, ⟨x, (hk _ _ h1).trans h2, h3, DR.ext hi hk d x h4⟩, CR.ext hi hk b (o + 1) r h5⟩
theorem DRs.ext (hi : ∀ b j, Im b j → Im' b j) (hk : ∀ b j, Im b j → w'.cell? ⟨b, j, none⟩ = w.cell? ⟨b, j, none⟩) : ∀ (cs : List D) (xs : List Value), DRs w Im cs xs → DRs w' Im' cs xs
  | [], _, h => by simpa only [DRs] using h
  | d :: r, xs, h => by
    simp only [DRs] at h ⊢
    obtain ⟨x, ys, h1, h2, h3, h4⟩ := h
    exact ⟨x, ys, h1, h2, DR.ext hi hk d x h3, DRs.ext hi hk r ys h4⟩
end
end

theorem RefR.turned {o o' : Ob} {p p' v : Value} {a b c : Nat} (h : RefR p a b c v (some o)) (t : Turned o o' p p') : RefR p' a b c v (some o') := by
  cases o <;> simp only [RefR] at h <;> cases o' <;> simp only [Turned, RefR] at t ⊢
  obtain ⟨rfl, rfl, rfl, h1, h2⟩ := t
  refine ⟨by omega, fun e => ?_⟩
  rw [h2 (by omega)]
  have hn := h.2 (by omega)
  have e2 : _ = _ := (show _ = _ from Nat.le_antisymm h1 (by omega))
  rw [← e2]
  exact hn

theorem PtrR.turned {o o' : Ob} {p p' v : Value} {a c : Nat} (h : PtrR p a c v (some o)) (t : Turned o o' p p') : PtrR p' a c v (some o') := by
  cases o <;> simp only [PtrR] at h <;> cases o' <;> simp only [Turned, PtrR] at t ⊢
  · obtain ⟨rfl, _⟩ := t; exact h
  · obtain ⟨rfl, rfl, rfl, h1, h2⟩ := t
    refine ⟨by omega, fun e => ?_⟩
    rw [h2 (by omega)]
    have hn := h.2 (by omega)
    have e2 : _ = _ := (show _ = _ from Nat.le_antisymm h1 (by omega))
    rw [← e2]
    exact hn

theorem YldR.turned {o o' : Ob} {p p' v : Value} (h : YldR p v (some o)) (t : Turned o o' p p') : YldR p' v (some o') := by
  cases o <;> simp only [YldR] at h <;> cases o' <;> simp only [Turned, YldR] at t ⊢
  subst t; exact h
theorem MpR.turned {o o' : Ob} {p p' v : Value} (h : MpR p v (some o)) (t : Turned o o' p p') : MpR p' v (some o') := by
  cases o <;> simp only [MpR] at h <;> cases o' <;> simp only [Turned, MpR] at t ⊢
  subst t; exact h
theorem ItR.turned {o o' : Ob} {p p' v : Value} (h : ItR p v (some o)) (t : Turned o o' p p') : ItR p' v (some o') := by
  cases o <;> simp only [ItR] at h <;> cases o' <;> simp only [Turned, ItR] at t ⊢
  subst t; exact h

theorem RefR.some {p v : Value} {a b c : Nat} {x : Option Ob} (h : RefR p a b c v x) : ∃ o, x = some o := by
  cases x with
  | none => simp [RefR] at h
  | some o => exact ⟨o, rfl⟩
theorem PtrR.some {p v : Value} {a c : Nat} {x : Option Ob} (h : PtrR p a c v x) : ∃ o, x = some o := by
  cases x with
  | none => simp [PtrR] at h
  | some o => exact ⟨o, rfl⟩
theorem YldR.some {p v : Value} {x : Option Ob} (h : YldR p v x) : ∃ o, x = some o := by
  cases x with
  | none => simp [YldR] at h
  | some o => exact ⟨o, rfl⟩
theorem MpR.some {p v : Value} {x : Option Ob} (h : MpR p v x) : ∃ o, x = some o := by
  cases x with
  | none => simp [MpR] at h
  | some o => exact ⟨o, rfl⟩
theorem ItR.some {p v : Value} {x : Option Ob} (h : ItR p v x) : ∃ o, x = some o := by
  cases x with
  | none => simp [ItR] at h
  | some o => exact ⟨o, rfl⟩

section
variable {K : Id → Prop} {s s' : S}
mutual
theorem VR.ext0 (h : Ext0 K s s') : ∀ (v : V) (x : Value), (∀ i ∈ ids v, K i) → VR s v x → VR s' v x
  | .d d, x, _, hv => by simp only [VR] at hv ⊢; exact DR.ext h.im h.keep d x hv
  | .agg cs, x, hk, hv => by
    simp only [VR] at hv ⊢
    obtain ⟨xs, hx, hv⟩ := hv
    exact ⟨xs, hx, VRs.ext0 h cs _ (by simpa only [ids] using hk) hv⟩
  | .tup cs, x, hk, hv => by
    simp only [VR] at hv ⊢
    obtain ⟨xs, hx, hv⟩ := hv
    exact ⟨xs, hx, VRt.ext0 h cs _ (by simpa only [ids] using hk) hv⟩
  | .ref o a b c, x, hk, hv => by
    simp only [VR] at hv ⊢
    obtain ⟨h1, hv⟩ := hv
    obtain ⟨ob, ho⟩ := hv.some
    obtain ⟨ob', ho', t⟩ := h.objs o ob (hk o (by simp [ids])) ho
    rw [ho] at hv; rw [ho']; exact ⟨h1, hv.turned t⟩
  | .ptr o a b, x, hk, hv => by
    simp only [VR] at hv ⊢
    obtain ⟨h1, hv⟩ := hv
    obtain ⟨ob, ho⟩ := hv.some
    obtain ⟨ob', ho', t⟩ := h.objs o ob (hk o (by simp [ids])) ho
    rw [ho] at hv; rw [ho']; exact ⟨h1, hv.turned t⟩
  | .lptr cs off, x, _, hv => by
    simp only [VR] at hv ⊢
    obtain ⟨b, o, hx, hv⟩ := hv
    exact ⟨b, o, hx, CR.ext h.im h.keep b o cs hv⟩
  | .fn f a b, x, hk, hv => by
    simp only [VR] at hv ⊢
    obtain ⟨xs, ys, hx, h1, h2⟩ := hv
    exact ⟨xs, ys, hx, VRt.ext0 h a _ (fun i hi => hk i (by simp [ids, hi])) h1, VRt.ext0 h b _ (fun i hi => hk i (by simp [ids, hi])) h2⟩
  | .yld o, x, hk, hv => by
    simp only [VR] at hv ⊢
    obtain ⟨h1, hv⟩ := hv
    obtain ⟨ob, ho⟩ := hv.some
    obtain ⟨ob', ho', t⟩ := h.objs o ob (hk o (by simp [ids])) ho
    rw [ho] at hv; rw [ho']; exact ⟨h1, hv.turned t⟩
  | .mp o, x, hk, hv => by
    simp only [VR] at hv ⊢
    obtain ⟨h1, hv⟩ := hv
    obtain ⟨ob, ho⟩ := hv.some
    obtain ⟨ob', ho', t⟩ := h.objs o ob (hk o (by simp [ids])) ho
    rw [ho] at hv; rw [ho']; exact ⟨h1, hv.turned t⟩
  | .it o, x, hk, hv => by
    simp only [VR] at hv ⊢
    obtain ⟨h1, hv⟩ := hv
    obtain ⟨ob, ho⟩ := hv.some
    obtain ⟨ob', ho', t⟩ := h.objs o ob (hk o (by simp [ids])) ho
    rw [ho] at hv; rw [ho']; exact ⟨h1, hv.turned t⟩
  | .skip, x, _, hv => by simpa only [VR] using hv
  | .undef, x, _, _ => by simp only [VR]
theorem VRs.ext0 (h : Ext0 K s s') : ∀ (cs : List V) (xs : List Value), (∀ i ∈ idsL cs, K i) → VRs s cs xs → VRs s' cs xs
  | [], _, _, hv => by simpa only [VRs] using hv
  | d :: r, xs, hk, hv => by
    simp only [VRs] at hv ⊢
    obtain ⟨x, ys, h1, h2, h3, h4⟩ := hv
    exact ⟨x, ys, h1, h2, VR.ext0 h d x (fun i hi => hk i (by simp [idsL, hi])) h3, VRs.ext0 h r ys (fun i hi => hk i (by simp [idsL, hi])) h4⟩
theorem VRt.ext0 (h : Ext0 K s s') : ∀ (cs : List V) (xs : List Value), (∀ i ∈ idsL cs, K i) → VRt s cs xs → VRt s' cs xs
  | [], _, _, hv => by simpa only [VRt] using hv
  | d :: r, xs, hk, hv => by
    simp only [VRt] at hv ⊢
    obtain ⟨x, ys, h1, h3, h4⟩ := hv
    exact ⟨x, ys, h1, VR.ext0 h d x (fun i hi => hk i (by simp [idsL, hi])) h3, VRt.ext0 h r ys (fun i hi => hk i (by simp [idsL, hi])) h4⟩
end
theorem VR.ext (h : Ext K s s') (v : V) (x : Value) (hk : ∀ i ∈ ids v, K i) (hv : VR s v x) : VR s' v x := VR.ext0 h.to0 v x hk hv
theorem VRs.ext (h : Ext K s s') (cs : List V) (xs : List Value) (hk : ∀ i ∈ idsL cs, K i) (hv : VRs s cs xs) : VRs s' cs xs := VRs.ext0 h.to0 cs xs hk hv
theorem VRt.ext (h : Ext K s s') (cs : List V) (xs : List Value) (hk : ∀ i ∈ idsL cs, K i) (hv : VRt s cs xs) : VRt s' cs xs := VRt.ext0 h.to0 cs xs hk hv

end
end Go.Evl

