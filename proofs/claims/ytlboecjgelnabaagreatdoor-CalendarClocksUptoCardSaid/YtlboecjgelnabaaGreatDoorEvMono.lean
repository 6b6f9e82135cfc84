
/-
  What only reads memory gives the same in a larger memory.
-/
import Derived.Test.YtlboecjgelnabaaGreatDoorEvTwelve
namespace Go.Evl

def Sub (m m' : Mem) : Prop := ∀ i o, look m i = some o → look m' i = some o

section
variable {m m' : Mem}
mutual
theorem freeze_mono (hs : Sub m m') (any : Bool) : ∀ (v : V) (d : D), freeze any m v = some d → freeze any m' v = some d
  | .d _, _, h => h
  | .agg cs, d, h => by
    simp only [freeze, Option.map_eq_some_iff] at h ⊢
    obtain ⟨x, h1, h2⟩ := h
    exact ⟨x, freezeL_mono hs any cs x h1, h2⟩
  | .ref i off len top, d, h => by
    simp only [freeze] at h ⊢
    cases hl : look m i with
    | none => rw [hl] at h; cases h
    | some o => rw [hl] at h; rw [hs i o hl]; exact h
  | .tup _, _, h => by simp [freeze] at h
  | .ptr .., _, h => by simp [freeze] at h
  | .lptr .., _, h => by simp [freeze] at h
  | .fn .., _, h => by simp [freeze] at h
  | .yld _, _, h => by simp [freeze] at h
  | .mp _, _, h => by simp [freeze] at h
  | .it _, _, h => by simp [freeze] at h
  | .skip, _, h => by simp [freeze] at h
  | .undef, _, h => by simp [freeze] at h
theorem freezeL_mono (hs : Sub m m') (any : Bool) : ∀ (cs : List V) (ds : List D), freezeL any m cs = some ds → freezeL any m' cs = some ds
  | [], _, h => h
  | v :: r, ds, h => by
    simp only [freezeL] at h ⊢
    split at h
    · rename_i x xs h1 h2
      rw [freeze_mono hs any v x h1, freezeL_mono hs any r xs h2]
      exact h
    · cases h
end

theorem cellsD_mono (hs : Sub m m') {v : V} {ds : List D} (h : cellsD m v = some ds) : cellsD m' v = some ds := by
  unfold cellsD at h ⊢
  cases hf : freeze false m v with
  | none => rw [hf] at h; cases h
  | some d => rw [hf] at h; rw [freeze_mono hs false v d hf]; exact h

theorem listD_mono (hs : Sub m m') (sz : Nat) : ∀ (vs : List V) (ds : List D), listD sz m vs = some ds → listD sz m' vs = some ds
  | [], _, h => h
  | v :: r, ds, h => by
    simp only [listD] at h ⊢
    split at h
    · rename_i x xs h1 h2
      rw [cellsD_mono hs h1, listD_mono hs sz r xs h2]
      exact h
    · cases h

theorem look_mono {α : Type} (hs : Sub m m') (f : Option Ob → Option α) (hf : f none = none) {i : Id} {r : α} (h : f (look m i) = some r) : f (look m' i) = some r := by
  cases hl : look m i with
  | none => rw [hl, hf] at h; cases h
  | some o => rw [hl] at h; rw [hs i o hl]; exact h

theorem loadV_mono (hs : Sub m m') {n : Option Nat} {a v : V} (h : loadV n m a = some v) : loadV n m' a = some v := by
  cases a <;> simp only [loadV] at h ⊢ <;> first | exact h | skip
  exact look_mono hs (fun x => match x with | some (.cells _ cs) => pickV n cs _ | some (.row _ _ _ l xs) => if l = _ then pickD n xs _ else none | _ => none) rfl h

theorem sure_mono (hs : Sub m m') {v : V} (h : sure m v = true) : sure m' v = true := by
  cases v <;> simp only [sure] at h ⊢ <;> first | exact h | skip
  rename_i i off top
  cases hl : look m i with
  | none => rw [hl] at h; cases h
  | some o => rw [hl] at h; rw [hs i o hl]; exact h

theorem moveAddr_mono (hs : Sub m m') {off : Nat} {v r : V} (h : moveAddr off m v = some r) : moveAddr off m' v = some r := by
  unfold moveAddr at h ⊢
  split at h
  · rename_i hsu
    rw [if_pos (sure_mono hs hsu)]; exact h
  · cases h

theorem idxAddrV_mono (hs : Sub m m') {sz : Nat} {x i r : V} (h : idxAddrV sz m x i = some r) : idxAddrV sz m' x i = some r := by
  unfold idxAddrV at h ⊢
  split at h
  · cases h
  · cases x <;> first | exact h | skip
    case d x => cases x <;> exact h
    case ref id _ _ _ =>
      dsimp only at h ⊢
      cases hl : look m id with
      | none => rw [hl] at h; cases h
      | some o => rw [hl] at h; rw [hs id o hl]; exact h

theorem sliceV_mono (hs : Sub m m') {sz : Nat} {x : V} {lo hi mx : Option V} {r : V} (h : sliceV sz m x lo hi mx = some r) : sliceV sz m' x lo hi mx = some r := by
  unfold sliceV at h ⊢
  cases x <;> first | exact h | skip
  case d x => cases x <;> exact h
  case ref id _ _ _ =>
    dsimp only at h ⊢
    cases hl : look m id with
    | none => rw [hl] at h; cases h
    | some o => rw [hl] at h; rw [hs id o hl]; exact h

theorem lenV_mono (hs : Sub m m') {k : Kd} {x : V} {n : Nat} (h : lenV m k x = some n) : lenV m' k x = some n := by
  unfold lenV at h ⊢
  cases k <;> cases x <;> first | exact h | skip
  case slc.d x => cases x <;> exact h
  case slc.ref id _ _ _ =>
    dsimp only at h ⊢
    cases hl : look m id with
    | none => rw [hl] at h; cases h
    | some o => rw [hl] at h; rw [hs id o hl]; exact h
  case map.mp id =>
    dsimp only at h ⊢
    cases hl : look m id with
    | none => rw [hl] at h; cases h
    | some o => rw [hl] at h; rw [hs id o hl]; exact h

theorem lookupV_mono (hs : Sub m m') {kk : KK} {z : D} {c : Bool} {x k r : V} (h : lookupV kk z c m x k = some r) : lookupV kk z c m' x k = some r := by
  unfold lookupV at h ⊢
  split at h <;> try cases h
  split at h <;> try cases h
  rename_i hk
  simp only [hk, if_true]
  cases x <;> first | exact h | skip
  case d x => cases x <;> exact h
  case mp id =>
    dsimp only at h ⊢
    cases hl : look m id with
    | none => rw [hl] at h; cases h
    | some o => rw [hl] at h; rw [hs id o hl]; exact h

theorem cls1_mono {F : Oracle} {cx : Cx} {slot : Nat} {e : Env} (hs : Sub m m') {op : COp} (hc : cls op = 1) {v : V} {m1 : Mem} (h : evOp F cx slot e m op = some (v, m1)) : evOp F cx slot e m' op = some (v, m') := by
  cases op <;> first | exact absurd (show (2 : Nat) = 1 from hc) (by decide) | exact absurd (show (0 : Nat) = 1 from hc) (by decide) | skip
  all_goals simp only [evOp, Option.map_eq_some_iff, Option.some.injEq, Prod.mk.injEq] at h ⊢
  case mkList => obtain ⟨a, h1, h2, _⟩ := h; exact ⟨a, listD_mono hs _ _ _ h1, h2, by first | trivial | rfl⟩
  case load => obtain ⟨a, h1, h2, _⟩ := h; exact ⟨a, loadV_mono hs h1, h2, by first | trivial | rfl⟩
  case nilCheck x =>
    split at h
    · rename_i hsu
      simp only [Option.some.injEq, Prod.mk.injEq] at h
      rw [if_pos (sure_mono hs hsu), h.1]
    · generalize hx : x.ev e = y at h ⊢
      cases y <;> simp only [reduceCtorEq, Option.some.injEq, Prod.mk.injEq] at h
      obtain ⟨rfl, _⟩ := h
      simp [sure]
  case slice => obtain ⟨a, h1, h2, _⟩ := h; exact ⟨a, sliceV_mono hs h1, h2, by first | trivial | rfl⟩
  case fieldAddr => obtain ⟨a, h1, h2, _⟩ := h; exact ⟨a, moveAddr_mono hs h1, h2, by first | trivial | rfl⟩
  case idxAddr => obtain ⟨a, h1, h2, _⟩ := h; exact ⟨a, idxAddrV_mono hs h1, h2, by first | trivial | rfl⟩
  case idxAddrA =>
    split at h <;> try cases h
    split at h <;> try cases h
    rename_i hr
    simp only [Option.map_eq_some_iff, Prod.mk.injEq] at h
    obtain ⟨a, h1, h2, _⟩ := h
    rw [if_pos hr, moveAddr_mono hs h1, ← h2]
    rfl
  case lookup => obtain ⟨a, h1, h2, _⟩ := h; exact ⟨a, lookupV_mono hs h1, h2, by first | trivial | rfl⟩
  case len => obtain ⟨a, h1, h2, _⟩ := h; exact ⟨a, lenV_mono hs h1, h2, by first | trivial | rfl⟩
  case build z ps => cases hz : allZ z <;> simp [cls, hz] at hc
  case alloc z => cases hz : allZ z <;> simp [cls, hz] at hc
  case call a b f args =>
    cases a <;> cases b <;> first | exact absurd (show (2 : Nat) = 1 from hc) (by decide) | skip
    simp only [callV, Bool.false_eq_true, if_false] at h ⊢
    split at h <;> try cases h
    split at h <;> try cases h
    rename_i hfr
    split at h <;> try cases h
    rename_i hcall
    simp only [freezeL_mono hs false _ _ hfr, hcall]
    simp only [takeV, if_true] at h ⊢
    split at h <;> try cases h
    rename_i hid
    rw [if_pos hid]
    simp only [Option.map_eq_some_iff, Prod.mk.injEq] at h ⊢
    obtain ⟨a, h1, h2, _⟩ := h
    exact ⟨a, h1, h2, by first | trivial | rfl⟩

theorem cls1_mono' {F : Oracle} {cx : Cx} {e : Env} (hs : Sub m m') {c : CO} (hc : cls c.op = 1) {v : V} {m1 : Mem} (h : evOp1 F cx e m c = some (v, m1)) : evOp1 F cx e m' c = some (v, m') := by
  unfold evOp1 at h ⊢
  split at h
  · exact cls1_mono hs hc h
  · split at h
    · split at h
      · rename_i hb
        rw [if_pos hb]
        exact cls1_mono hs hc h
      · rename_i hb
        rw [if_neg hb]
        simp only [Option.some.injEq, Prod.mk.injEq] at h ⊢
        exact ⟨h.1, trivial⟩
    · simp only [Option.some.injEq, Prod.mk.injEq] at h ⊢
      exact ⟨h.1, trivial⟩
    · cases h

theorem cls3_sub {F : Oracle} {cx : Cx} {e : Env} {c : CO} (hc : cls c.op = 3) {v : V} (h : evOp1 F cx e m c = some (v, m')) : Sub m m' := by
  have key : ∀ slot, evOp F cx slot e m c.op = some (v, m') → Sub m m' := by
    intro slot h
    generalize hop : c.op = op at hc h
    cases op <;> first | exact absurd (show (2 : Nat) = 3 from hc) (by decide) | exact absurd (show (1 : Nat) = 3 from hc) (by decide) | exact absurd (show (0 : Nat) = 3 from hc) (by decide) | skip
    case build z ps => cases hz : allZ z <;> simp [cls, hz] at hc
    case call a b f args => cases a <;> cases b <;> simp [cls] at hc
    case alloc z =>
      have hz : allZ z = true := by
        cases hz : allZ z with
        | true => rfl
        | false => simp [cls, hz] at hc
      simp only [evOp, (allZ_ok cx slot z m hz).1, Option.some.injEq, Prod.mk.injEq] at h
      obtain ⟨_, rfl⟩ := h
      intro i o hi
      rw [look_upd_other _ _ _ _ fun e => ?_]
      · exact hi
      · rw [← e, newId_fresh] at hi
        cases hi
  unfold evOp1 at h
  split at h
  · exact key _ h
  · split at h
    · split at h
      · exact key _ h
      · simp only [Option.some.injEq, Prod.mk.injEq] at h; exact h.2 ▸ fun _ _ h => h
    · simp only [Option.some.injEq, Prod.mk.injEq] at h; exact h.2 ▸ fun _ _ h => h
    · cases h

end
end Go.Evl

