
/-
  What an operation reads; which ones leave memory alone; the evaluator's trace through a region.
-/
import Derived.Test.YtlboecjgelnabaaGreatDoorEvEleven
namespace Go.Evl
open Go.RowKit

def tO : Opd → List Nat
  | .t n => [n]
  | .k _ => []
def tOs : List Opd → List Nat
  | [] => []
  | x :: r => tO x ++ tOs r
def tP : List (Nat × Nat × Opd) → List Nat
  | [] => []
  | (_, _, x) :: r => tO x ++ tP r
def tQ : Option Opd → List Nat
  | none => []
  | some x => tO x

def reads : COp → List Nat
  | .mv x => tO x
  | .ownNil _ => []
  | .pick c a b => tO c ++ (tO a ++ tO b)
  | .alloc .. => []
  | .box _ x => tO x
  | .build _ ps => tP ps
  | .mkList _ _ ps => tOs ps
  | .mkRow _ _ ps => tOs ps
  | .load _ a => tO a
  | .store _ a x => tO a ++ tO x
  | .nilCheck x => tO x
  | .bin _ x y => tO x ++ tO y
  | .eqv _ _ x y => tO x ++ tO y
  | .un _ x => tO x
  | .conv _ x => tO x
  | .mkFunc _ a b => tOs a ++ tOs b
  | .makeRow _ _ n => tO n
  | .sliceS x lo hi => tO x ++ (tQ lo ++ tQ hi)
  | .slice _ x lo hi mx => tO x ++ (tQ lo ++ (tQ hi ++ tQ mx))
  | .fieldAddr _ x => tO x
  | .field _ _ x => tO x
  | .idxAddr _ x i => tO x ++ tO i
  | .idxAddrA _ _ x i => tO x ++ tO i
  | .idxS x i => tO x ++ tO i
  | .idxA _ _ _ x i => tO x ++ tO i
  | .mkMap => []
  | .lookup _ _ _ m k => tO m ++ tO k
  | .mapSet _ m k x => tO m ++ (tO k ++ tO x)
  | .rangeS x => tO x
  | .nextS x => tO x
  | .extract x _ => tO x
  | .call _ _ f args => tO f ++ tOs args
  | .len _ x => tO x
  | .append _ a x => tO a ++ tO x
  | .appendS _ a x => tO a ++ tO x
  | .copy _ a x => tO a ++ tO x
  | .minmax _ args => tOs args
  | .clear _ x => tO x

def reads1 (c : CO) : List Nat :=
  match c.guard with
  | none => reads c.op
  | some (t, _) => t :: reads c.op

def allZ : List Init → Bool
  | [] => true
  | .z _ :: r => allZ r
  | _ => false

theorem allZ_ok (cx : Cx) (slot : Nat) : ∀ (l : List Init) (m : Mem), allZ l = true → (initCells cx slot l m).2 = m ∧ ∀ m2, initCells cx slot l m2 = ((initCells cx slot l m).1, m2)
  | [], m, _ => ⟨rfl, fun _ => rfl⟩
  | .z x :: r, m, h => by
    obtain ⟨h1, h2⟩ := allZ_ok cx slot r m h
    exact ⟨by simp [initCells, h1], fun m2 => by simp [initCells, h2 m2]⟩
  | .own _ :: _, _, h => by simp [allZ] at h

/-- 0: of its operands alone; 1: it reads memory; 2: it may change memory; 3: it lays a new object of plain cells. -/
def cls : COp → Nat
  | .mv _ => 0
  | .pick .. => 0
  | .bin .. => 0
  | .eqv .. => 0
  | .un .. => 0
  | .conv .. => 0
  | .mkFunc .. => 0
  | .sliceS .. => 0
  | .field .. => 0
  | .idxS .. => 0
  | .idxA .. => 0
  | .extract .. => 0
  | .minmax .. => 0
  | .build z _ => if allZ z then 0 else 2
  | .alloc _ z => if allZ z then 3 else 2
  | .mkList .. => 1
  | .load .. => 1
  | .nilCheck _ => 1
  | .slice .. => 1
  | .fieldAddr .. => 1
  | .idxAddr .. => 1
  | .idxAddrA .. => 1
  | .lookup .. => 1
  | .len .. => 1
  | .call false true _ _ => 1
  | _ => 2

section
variable {F : Oracle} {cx : Cx} {slot : Nat} {e e' : Env} {m : Mem}

theorem ev_congr (x : Opd) (h : ∀ t ∈ tO x, get e t = get e' t) : x.ev e = x.ev e' := by
  cases x with
  | t n => exact h n (by simp [tO])
  | k v => rfl
theorem evs_congr : ∀ (xs : List Opd), (∀ t ∈ tOs xs, get e t = get e' t) → evs e xs = evs e' xs
  | [], _ => rfl
  | x :: r, h => by
    simp only [evs]
    rw [ev_congr x fun t ht => h t (by simp [tOs, ht]), evs_congr r fun t ht => h t (by simp [tOs, ht])]
theorem parts_congr : ∀ (xs : List (Nat × Nat × Opd)), (∀ t ∈ tP xs, get e t = get e' t) → partsV e xs = partsV e' xs
  | [], _ => rfl
  | (a, b, x) :: r, h => by
    simp only [partsV]
    rw [ev_congr x fun t ht => h t (by simp [tP, ht]), parts_congr r fun t ht => h t (by simp [tP, ht])]
theorem evq_congr (x : Option Opd) (h : ∀ t ∈ tQ x, get e t = get e' t) : x.map (·.ev e) = x.map (·.ev e') := by
  cases x with
  | none => rfl
  | some x => simp only [Option.map_some]; rw [ev_congr x fun t ht => h t (by simp [tQ, ht])]

theorem evOp_congr (op : COp) (h : ∀ t ∈ reads op, get e t = get e' t) : evOp F cx slot e m op = evOp F cx slot e' m op := by
  cases op <;> simp only [reads] at h <;> simp only [evOp]
  case mv x => rw [ev_congr x h]
  case pick c a b => rw [ev_congr c fun t ht => h t (by simp [ht]), ev_congr a fun t ht => h t (by simp [ht]), ev_congr b fun t ht => h t (by simp [ht])]
  case box x => rw [ev_congr x h]
  case build z ps => rw [parts_congr ps h]
  case mkList a b ps => rw [evs_congr ps h]
  case mkRow a b ps => rw [evs_congr ps h]
  case load n x => rw [ev_congr x h]
  case store n a x => rw [ev_congr a fun t ht => h t (by simp [ht]), ev_congr x fun t ht => h t (by simp [ht])]
  case nilCheck x => rw [ev_congr x h]
  case bin op a x => rw [ev_congr a fun t ht => h t (by simp [ht]), ev_congr x fun t ht => h t (by simp [ht])]
  case eqv n b a x => rw [ev_congr a fun t ht => h t (by simp [ht]), ev_congr x fun t ht => h t (by simp [ht])]
  case un op x => rw [ev_congr x h]
  case conv k x => rw [ev_congr x h]
  case mkFunc f a b => rw [evs_congr a fun t ht => h t (by simp [ht]), evs_congr b fun t ht => h t (by simp [ht])]
  case makeRow r z x => rw [ev_congr x h]
  case sliceS x lo hi => rw [ev_congr x fun t ht => h t (by simp [ht]), evq_congr lo fun t ht => h t (by simp [ht]), evq_congr hi fun t ht => h t (by simp [ht])]
  case slice n x lo hi mx => rw [ev_congr x fun t ht => h t (by simp [ht]), evq_congr lo fun t ht => h t (by simp [ht]), evq_congr hi fun t ht => h t (by simp [ht]), evq_congr mx fun t ht => h t (by simp [ht])]
  case fieldAddr n x => rw [ev_congr x h]
  case field n k x => rw [ev_congr x h]
  case idxAddr n a x => rw [ev_congr a fun t ht => h t (by simp [ht]), ev_congr x fun t ht => h t (by simp [ht])]
  case idxAddrA l n a x => rw [ev_congr a fun t ht => h t (by simp [ht]), ev_congr x fun t ht => h t (by simp [ht])]
  case idxS a x => rw [ev_congr a fun t ht => h t (by simp [ht]), ev_congr x fun t ht => h t (by simp [ht])]
  case idxA l n k a x => rw [ev_congr a fun t ht => h t (by simp [ht]), ev_congr x fun t ht => h t (by simp [ht])]
  case lookup kk z c a x => rw [ev_congr a fun t ht => h t (by simp [ht]), ev_congr x fun t ht => h t (by simp [ht])]
  case mapSet kk c a b => rw [ev_congr c fun t ht => h t (by simp [ht]), ev_congr a fun t ht => h t (by simp [ht]), ev_congr b fun t ht => h t (by simp [ht])]
  case rangeS x => rw [ev_congr x h]
  case nextS x => rw [ev_congr x h]
  case extract x i => rw [ev_congr x h]
  case call a b f args => rw [ev_congr f fun t ht => h t (by simp [ht]), evs_congr args fun t ht => h t (by simp [ht])]
  case len k x => rw [ev_congr x h]
  case appendS r a x => rw [ev_congr a fun t ht => h t (by simp [ht]), ev_congr x fun t ht => h t (by simp [ht])]
  case append r a x => rw [ev_congr a fun t ht => h t (by simp [ht]), ev_congr x fun t ht => h t (by simp [ht])]
  case copy n a x => rw [ev_congr a fun t ht => h t (by simp [ht]), ev_congr x fun t ht => h t (by simp [ht])]
  case minmax b args => rw [evs_congr args h]
  case clear z x => rw [ev_congr x h]

theorem evOp1_congr (c : CO) (h : ∀ t ∈ reads1 c, get e t = get e' t) : evOp1 F cx e m c = evOp1 F cx e' m c := by
  unfold evOp1
  unfold reads1 at h
  cases hg : c.guard with
  | none => rw [hg] at h; exact evOp_congr _ h
  | some p =>
    obtain ⟨t, w⟩ := p
    rw [hg] at h
    simp only
    rw [h t (by simp), evOp_congr c.op fun t ht => h t (by simp [ht])]

theorem cls0 {op : COp} {v : V} {m' : Mem} (hc : cls op = 0) (h : evOp F cx slot e m op = some (v, m')) : m' = m ∧ ∀ m2, evOp F cx slot e m2 op = some (v, m2) := by
  cases op <;> first | exact absurd (show (2 : Nat) = 0 from hc) (by decide) | exact absurd (show (1 : Nat) = 0 from hc) (by decide) | skip
  all_goals simp only [evOp, Option.map_eq_some_iff, Option.some.injEq, Prod.mk.injEq] at h
  case mv => obtain ⟨rfl, rfl⟩ := h; exact ⟨rfl, fun _ => by simp_all [evOp]⟩
  case pick =>
    split at h <;> try cases h
    rename_i hx
    exact ⟨rfl, fun _ => by simp_all [evOp]⟩
  case bin => obtain ⟨a, h1, rfl, rfl⟩ := h; exact ⟨rfl, fun _ => by simp_all [evOp]⟩
  case eqv => obtain ⟨a, h1, rfl, rfl⟩ := h; exact ⟨rfl, fun _ => by simp_all [evOp]⟩
  case un => obtain ⟨a, h1, rfl, rfl⟩ := h; exact ⟨rfl, fun _ => by simp_all [evOp]⟩
  case conv =>
    split at h <;> try cases h
    rename_i hx
    exact ⟨rfl, fun _ => by simp_all [evOp]⟩
  case mkFunc => obtain ⟨rfl, rfl⟩ := h; exact ⟨rfl, fun _ => by simp_all [evOp]⟩
  case sliceS =>
    split at h <;> try cases h
    rename_i hx
    split at h <;> try cases h
    rename_i hb
    exact ⟨rfl, fun _ => by simp_all [evOp]⟩
  case field => obtain ⟨a, h1, rfl, rfl⟩ := h; exact ⟨rfl, fun _ => by simp_all [evOp]⟩
  case idxS =>
    split at h <;> try cases h
    rename_i hx hi
    split at h <;> try cases h
    rename_i h0
    simp only [Option.map_eq_some_iff, Prod.mk.injEq] at h
    obtain ⟨a, h1, rfl, rfl⟩ := h
    exact ⟨rfl, fun _ => by simp_all [evOp]⟩
  case idxA =>
    split at h <;> try cases h
    rename_i hi
    split at h <;> try cases h
    rename_i h0
    simp only [Option.map_eq_some_iff, Prod.mk.injEq] at h
    obtain ⟨a, h1, rfl, rfl⟩ := h
    exact ⟨rfl, fun _ => by simp_all [evOp]⟩
  case extract =>
    split at h <;> try cases h
    rename_i hx
    simp only [Option.map_eq_some_iff, Prod.mk.injEq] at h
    obtain ⟨a, h1, rfl, rfl⟩ := h
    exact ⟨rfl, fun _ => by simp_all [evOp]⟩
  case minmax => obtain ⟨a, h1, rfl, rfl⟩ := h; exact ⟨rfl, fun _ => by simp_all [evOp]⟩
  case alloc z => cases hz : allZ z <;> simp [cls, hz] at hc
  case build z ps =>
    have hz : allZ z = true := by
      cases hz : allZ z with
      | true => rfl
      | false => simp [cls, hz] at hc
    obtain ⟨a, h1, rfl, rfl⟩ := h
    obtain ⟨k1, k2⟩ := allZ_ok cx slot z m hz
    exact ⟨k1, fun m2 => by simp [evOp, k2 m2, h1]⟩
  case call a b _ _ => cases a <;> cases b <;> simp [cls] at hc

theorem cls1 {op : COp} {v : V} {m' : Mem} (hc : cls op ≤ 1) (h : evOp F cx slot e m op = some (v, m')) : m' = m := by
  by_cases h0 : cls op = 0
  · exact (cls0 h0 h).1
  cases op <;> first | exact absurd (show (2 : Nat) ≤ 1 from hc) (by decide) | exact absurd rfl h0 | skip
  all_goals simp only [evOp, Option.map_eq_some_iff, Option.some.injEq, Prod.mk.injEq] at h
  case alloc z => cases hz : allZ z <;> simp [cls, hz] at hc
  case build z ps =>
    cases hz : allZ z with
    | true => simp [cls, hz] at h0
    | false => simp [cls, hz] at hc
  case mkList => obtain ⟨a, h1, rfl, rfl⟩ := h; rfl
  case load => obtain ⟨a, h1, rfl, rfl⟩ := h; rfl
  case nilCheck =>
    split at h
    · simp only [Option.some.injEq, Prod.mk.injEq] at h; exact h.2.symm
    · split at h <;> try cases h
      rfl
  case slice => obtain ⟨a, h1, rfl, rfl⟩ := h; rfl
  case fieldAddr => obtain ⟨a, h1, rfl, rfl⟩ := h; rfl
  case idxAddr => obtain ⟨a, h1, rfl, rfl⟩ := h; rfl
  case idxAddrA =>
    split at h <;> try cases h
    split at h <;> try cases h
    simp only [Option.map_eq_some_iff, Prod.mk.injEq] at h
    obtain ⟨a, h1, rfl, rfl⟩ := h; rfl
  case lookup => obtain ⟨a, h1, rfl, rfl⟩ := h; rfl
  case len => obtain ⟨a, h1, rfl, rfl⟩ := h; rfl
  case call a b f args =>
    cases a <;> cases b <;> first | exact absurd (show (2 : Nat) ≤ 1 from hc) (by decide) | skip
    simp only [callV, Bool.false_eq_true, if_false] at h
    split at h <;> try cases h
    split at h <;> try cases h
    split at h <;> try cases h
    simp only [takeV, if_true] at h
    split at h <;> try cases h
    simp only [Option.map_eq_some_iff, Prod.mk.injEq] at h
    obtain ⟨a, h1, rfl, rfl⟩ := h; rfl

theorem cls0' {c : CO} {v : V} {m' : Mem} (hc : cls c.op = 0) (h : evOp1 F cx e m c = some (v, m')) : m' = m ∧ ∀ m2, evOp1 F cx e m2 c = some (v, m2) := by
  unfold evOp1 at h ⊢
  split at h
  · simpa using cls0 hc h
  · split at h
    · split at h
      · rename_i hb
        have := cls0 hc h
        simp only [hb, if_true]
        exact this
      · rename_i hb
        simp only [Option.some.injEq, Prod.mk.injEq] at h
        obtain ⟨rfl, rfl⟩ := h
        exact ⟨rfl, fun _ => by simp only [hb, if_false]⟩
    · simp only [Option.some.injEq, Prod.mk.injEq] at h
      obtain ⟨rfl, rfl⟩ := h
      exact ⟨rfl, fun _ => rfl⟩
    · cases h

theorem cls1' {c : CO} {v : V} {m' : Mem} (hc : cls c.op ≤ 1) (h : evOp1 F cx e m c = some (v, m')) : m' = m := by
  unfold evOp1 at h
  split at h
  · exact cls1 hc h
  · split at h
    · split at h
      · exact cls1 hc h
      · simp only [Option.some.injEq, Prod.mk.injEq] at h; exact h.2.symm
    · simp only [Option.some.injEq, Prod.mk.injEq] at h; exact h.2.symm
    · cases h

end
end Go.Evl

