
/-
  Requests checked together, by the program and by the reference; the place of a name.
-/
import Derived.Test.YtknmjcikgegghaaGreatDoorMsKey
import Derived.Test.YtknmjcikgegghaaGreatDoorMsFit
import Derived.Test.YtknmjcikgegghaaGreatDoorMsWord
import Derived.Test.YtknmjcikgegghaaGreatDoorSpGen
namespace Go.Proofs.YtknmjcikgegghaaGreatDoor.Co
open Go Go.Evl
set_option maxRecDepth 100000
abbrev LQ (l : List Rqt) : V := .d (.list l.length (l.flatMap Rqt.cells))
def nmsQ (l : List Rqt) : List (List UInt8) := l.map (·.nm)
theorem nmsQ_succ {l : List Rqt} {k : Nat} (h : k < l.length) : nmsQ (l.take (k + 1)) = nmsQ (l.take k) ++ [l[k].nm] := by
  unfold nmsQ
  rw [List.take_add_one, List.getElem?_eq_getElem h, List.map_append]
  rfl
def chkRqG (seen : List (List UInt8)) : List Rqt → Int
  | [] => 0
  | x :: r => if firstI [chkRq x, if x.nm ∈ seen then 9 else 0] = 0 then chkRqG (seen ++ [x.nm]) r else firstI [chkRq x, if x.nm ∈ seen then 9 else 0]
def chkRqs (l : List Rqt) : Int := if 64 < l.length then 5 else chkRqG [] l
theorem chkRqG_zero : ∀ (l : List Rqt) (seen : List (List UInt8)), chkRqG seen l = 0 → (nmsQ l).Nodup ∧ (∀ s ∈ nmsQ l, s ∉ seen) ∧ ∀ x ∈ l, chkRq x = 0
  | [], _, _ => by simp [nmsQ]
  | x :: r, seen, h => by
    rw [chkRqG] at h
    by_cases hz : firstI [chkRq x, if x.nm ∈ seen then 9 else 0] = 0
    · rw [if_pos hz] at h
      rw [firstI_zero] at hz
      have h1 := hz _ (List.mem_cons_self ..)
      have h2 := hz (if x.nm ∈ seen then 9 else 0) (by simp)
      have h2 : x.nm ∉ seen := fun hm => by rw [if_pos hm] at h2; cases h2
      obtain ⟨a, b, c⟩ := chkRqG_zero r _ h
      refine ⟨?_, ?_, ?_⟩
      · show (x.nm :: nmsQ r).Nodup
        refine List.nodup_cons.2 ⟨fun hm => ?_, a⟩
        exact b _ hm (by simp)
      · intro s hs
        rcases List.mem_cons.1 hs with rfl | hs
        · exact h2
        · exact fun hm => b s hs (by simp [hm])
      · intro y hy
        rcases List.mem_cons.1 hy with rfl | hy
        · exact h1
        · exact c y hy
    · rw [if_neg hz] at h
      exact absurd h hz
theorem chkRqs_zero {l : List Rqt} (h : chkRqs l = 0) : l.length ≤ 64 ∧ (nmsQ l).Nodup ∧ ∀ x ∈ l, chkRq x = 0 := by
  unfold chkRqs at h
  split at h
  · cases h
  · obtain ⟨a, _, c⟩ := chkRqG_zero _ _ h
    exact ⟨by omega, a, c⟩
def atG (s : List UInt8) : Nat → List Rqt → Int
  | _, [] => -1
  | i, x :: r => if x.nm = s then (i : Int) else atG s (i + 1) r
theorem atG_spec (s : List UInt8) : ∀ (l : List Rqt) (i : Nat), (atG s i l = -1 ∧ s ∉ nmsQ l) ∨ ∃ (k : Nat) (h : k < l.length), atG s i l = ((i + k : Nat) : Int) ∧ l[k].nm = s ∧ ∀ (j : Nat) (hj : j < k), ¬ (l[j]'(Nat.lt_trans hj h)).nm = s
  | [], i => .inl ⟨rfl, by simp [nmsQ]⟩
  | x :: r, i => by
    rw [atG]
    by_cases hx : x.nm = s
    · rw [if_pos hx]
      exact .inr ⟨0, by simp, rfl, hx, fun j hj => absurd hj (Nat.not_lt_zero _)⟩
    · rw [if_neg hx]
      rcases atG_spec s r (i + 1) with ⟨h1, h2⟩ | ⟨k, h, h1, h2, h3⟩
      · exact .inl ⟨h1, fun hm => (List.mem_cons.1 hm).elim (fun e => hx e.symm) h2⟩
      · refine .inr ⟨k + 1, by simpa using h, by rw [h1]; congr 1; omega, by simpa using h2, fun j hj => ?_⟩
        cases j with
        | zero => simpa using hx
        | succ j => simpa using h3 j (by omega)
section
variable {E : Oracle} (g : Good E)
include g
theorem r_At (l : List Rqt) (s : List UInt8) (hl : l.length ≤ 1000000) : Fc E n_ref02_At [LQ l, S s] (I (atG s 0 l)) := by
  refine g.fn code_ref02_At rfl ?_
  generalize hR : atG s 0 l = R
  repeat' ((conv => whnf); first
  | refine Br.tt ?_
  | refine Br.ff ?_
  | refine Need.w ?_
  | refine Wr.w ?_
  | refine Cmp.t ?_
  | refine Cmp.f ?_
  | refine Rem.w ?_
  | refine Quo.w ?_
  | refine PickV.now rfl ?_
  | refine Pick.now rfl ?_
  | refine Chk.mk rfl ?_
  | refine PickW.w rfl ?_)
  refine LoopW.to (LoopW.upP g (fun k => [(0, LQ l), (1, S s), (5, I k)]) (fun _ => []) (fun k => atG s k (l.drop k) = R) l.length (fun k hk h0 ih => ?_) 0 (Nat.zero_le _) hR) rfl rfl
  by_cases hlt : k < l.length
  · rw [List.drop_eq_getElem_cons hlt, atG] at h0
    have ih := ih hlt
    by_cases hd : l[k].nm = s
    · rw [if_pos hd] at h0
      rw [← h0]
      repeat' ((conv => whnf); first
      | refine Br.tt ?_
      | refine Br.ff ?_
      | refine Need.w ?_
      | refine Wr.w ?_
      | refine Cmp.t ?_
      | refine Cmp.f ?_
      | refine Rem.w ?_
      | refine Quo.w ?_
      | refine PickV.now rfl ?_
      | refine Pick.now rfl ?_
      | refine Chk.mk rfl ?_
      | refine PickW.w rfl ?_
        | (refine Pick.rec Rqt.cells_length k rfl hlt rfl ?_)
        | (refine Cmp.tt hd ?_)
        | (refine Ret.mk rfl))
    · rw [if_neg hd] at h0
      have ih := ih h0
      repeat' ((conv => whnf); first
      | refine Br.tt ?_
      | refine Br.ff ?_
      | refine Need.w ?_
      | refine Wr.w ?_
      | refine Cmp.t ?_
      | refine Cmp.f ?_
      | refine Rem.w ?_
      | refine Quo.w ?_
      | refine PickV.now rfl ?_
      | refine Pick.now rfl ?_
      | refine Chk.mk rfl ?_
      | refine PickW.w rfl ?_
        | (refine Pick.rec Rqt.cells_length k rfl hlt rfl ?_)
        | (refine Cmp.ff hd ?_)
        | (refine LoopW.to ih rfl rfl))
  · rw [List.drop_eq_nil_of_le (by omega), atG] at h0
    rw [← h0]
    repeat' ((conv => whnf); first
    | refine Br.tt ?_
    | refine Br.ff ?_
    | refine Need.w ?_
    | refine Wr.w ?_
    | refine Cmp.t ?_
    | refine Cmp.f ?_
    | refine Rem.w ?_
    | refine Quo.w ?_
    | refine PickV.now rfl ?_
    | refine Pick.now rfl ?_
    | refine Chk.mk rfl ?_
    | refine PickW.w rfl ?_
      | (refine Ret.mk rfl))
omit g in
theorem win_take (l : List Rqt) (k : Nat) (h : k ≤ l.length) : win (l.flatMap Rqt.cells) 0 (k * 13) = (l.take k).flatMap Rqt.cells := by
  unfold win
  rw [List.drop_zero]
  have e : l.flatMap Rqt.cells = (l.take k).flatMap Rqt.cells ++ (l.drop k).flatMap Rqt.cells := by rw [← List.flatMap_append, List.take_append_drop]
  have hn := flatR_length Rqt.cells 13 Rqt.cells_length (l.take k)
  rw [List.length_take, Nat.min_eq_left h] at hn
  rw [e, List.take_append_of_le_length (by omega), List.take_of_length_le (by omega)]
set_option maxHeartbeats 4000000 in
theorem r_CheckRequests (l : List Rqt) (hl : l.length ≤ 1000000) : Fc E n_ref02_CheckRequests [LQ l] (I (chkRqs l)) := by
  refine g.fn code_ref02_CheckRequests rfl ?_
  unfold chkRqs
  by_cases hn : 64 < l.length
  · rw [if_pos hn]
    repeat' ((conv => whnf); first
    | refine Br.tt ?_
    | refine Br.ff ?_
    | refine Need.w ?_
    | refine Wr.w ?_
    | refine Cmp.t ?_
    | refine Cmp.f ?_
    | refine Rem.w ?_
    | refine Quo.w ?_
    | refine PickV.now rfl ?_
    | refine Pick.now rfl ?_
    | refine Chk.mk rfl ?_
    | refine PickW.w rfl ?_
      | (refine Ret.mk rfl))
  · rw [if_neg hn]
    generalize hR : chkRqG [] l = R
    repeat' ((conv => whnf); first
    | refine Br.tt ?_
    | refine Br.ff ?_
    | refine Need.w ?_
    | refine Wr.w ?_
    | refine Cmp.t ?_
    | refine Cmp.f ?_
    | refine Rem.w ?_
    | refine Quo.w ?_
    | refine PickV.now rfl ?_
    | refine Pick.now rfl ?_
    | refine Chk.mk rfl ?_
    | refine PickW.w rfl ?_)
    refine LoopW.to (LoopW.upP g (fun k => [(0, LQ l), (3, I k)]) (fun _ => []) (fun k => chkRqG (nmsQ (l.take k)) (l.drop k) = R) l.length (fun k hk h0 ih => ?_) 0 (Nat.zero_le _) hR) rfl rfl
    by_cases hlt : k < l.length
    · rw [List.drop_eq_getElem_cons hlt, chkRqG, ← nmsQ_succ hlt] at h0
      have ih := ih hlt
      have hc := r_CheckRequest g l[k]
      by_cases hz : chkRq l[k] = 0
      · rw [hz] at hc h0
        have ha := r_At g (l.take k) l[k].nm (by simp; omega)
        have ht : V.d (.list (k - 0) (win (l.flatMap Rqt.cells) (0 * 13) ((k - 0) * 13))) = LQ (l.take k) := by
          rw [Nat.zero_mul, Nat.sub_zero, win_take l k (by omega), LQ, List.length_take, Nat.min_eq_left (by omega)]
        rcases atG_spec l[k].nm (l.take k) 0 with ⟨h1, h2⟩ | ⟨j, hj, h1, h2, _⟩
        · rw [if_neg h2, if_pos (by decide)] at h0
          have ih := ih h0
          rw [h1] at ha
          repeat' ((conv => whnf); first
          | refine Br.tt ?_
          | refine Br.ff ?_
          | refine Need.w ?_
          | refine Wr.w ?_
          | refine Cmp.t ?_
          | refine Cmp.f ?_
          | refine Rem.w ?_
          | refine Quo.w ?_
          | refine PickV.now rfl ?_
          | refine Pick.now rfl ?_
          | refine Chk.mk rfl ?_
          | refine PickW.w rfl ?_
            | (refine PickW.rec Rqt.cells_length k rfl hlt ?_)
            | (refine Pick.rec Rqt.cells_length k rfl hlt rfl ?_)
            | (refine CallI.of hc ?_)
            | (refine CallI.of ha ?_)
            | (refine Bounds.at 0 k rfl rfl (by omega) ?_ <;> (try rw [ht]))
            | (refine LoopW.to ih rfl rfl))
        · have hm : l[k].nm ∈ nmsQ (l.take k) := by
            unfold nmsQ
            rw [List.mem_map]
            exact ⟨_, List.getElem_mem hj, h2⟩
          rw [if_pos hm, if_neg (by decide)] at h0
          rw [← h0]
          rw [h1] at ha
          repeat' ((conv => whnf); first
          | refine Br.tt ?_
          | refine Br.ff ?_
          | refine Need.w ?_
          | refine Wr.w ?_
          | refine Cmp.t ?_
          | refine Cmp.f ?_
          | refine Rem.w ?_
          | refine Quo.w ?_
          | refine PickV.now rfl ?_
          | refine Pick.now rfl ?_
          | refine Chk.mk rfl ?_
          | refine PickW.w rfl ?_
            | (refine PickW.rec Rqt.cells_length k rfl hlt ?_)
            | (refine Pick.rec Rqt.cells_length k rfl hlt rfl ?_)
            | (refine CallI.of hc ?_)
            | (refine CallI.of ha ?_)
            | (refine Bounds.at 0 k rfl rfl (by omega) ?_ <;> (try rw [ht]))
            | (refine Ret.mk rfl))
      · have e : ∀ x, firstI [chkRq l[k], x] = chkRq l[k] := fun x => by simp [firstI, hz]
        rw [e, if_neg hz] at h0
        rw [← h0]
        repeat' ((conv => whnf); first
        | refine Br.tt ?_
        | refine Br.ff ?_
        | refine Need.w ?_
        | refine Wr.w ?_
        | refine Cmp.t ?_
        | refine Cmp.f ?_
        | refine Rem.w ?_
        | refine Quo.w ?_
        | refine PickV.now rfl ?_
        | refine Pick.now rfl ?_
        | refine Chk.mk rfl ?_
        | refine PickW.w rfl ?_
          | (refine PickW.rec Rqt.cells_length k rfl hlt ?_)
          | (refine CallI.of hc ?_)
          | (refine Cmp.ff hz ?_)
          | (refine Ret.mk rfl))
    · rw [List.drop_eq_nil_of_le (by omega), chkRqG] at h0
      rw [← h0]
      repeat' ((conv => whnf); first
      | refine Br.tt ?_
      | refine Br.ff ?_
      | refine Need.w ?_
      | refine Wr.w ?_
      | refine Cmp.t ?_
      | refine Cmp.f ?_
      | refine Rem.w ?_
      | refine Quo.w ?_
      | refine PickV.now rfl ?_
      | refine Pick.now rfl ?_
      | refine Chk.mk rfl ?_
      | refine PickW.w rfl ?_
        | (refine Ret.mk rfl))
theorem r_Short (l : List Rqt) (n : Nat) (hn : n ≤ 64) : Fc E n_ref02_Short [LQ l, I n] (B (decide (l.length ≤ n ∨ l.length = 65) && l.all briefB)) := by
  refine g.fn code_ref02_Short rfl ?_
  by_cases hl : l.length ≤ n ∨ l.length = 65
  · rw [decide_eq_true hl, Bool.true_and]
    repeat' ((conv => whnf); first
    | refine Br.tt ?_
    | refine Br.ff ?_
    | refine Need.w ?_
    | refine Wr.w ?_
    | refine Cmp.t ?_
    | refine Cmp.f ?_
    | refine Rem.w ?_
    | refine Quo.w ?_
    | refine PickV.now rfl ?_
    | refine Pick.now rfl ?_
    | refine Chk.mk rfl ?_
    | refine PickW.w rfl ?_
      | (refine Cmp.mk (fun h => ?_) (fun h => ?_))
      | (refine Rem.any (by omega) (fun r hr he => ?_))
      | (refine Br.mk (fun h => ?_) (fun h => ?_))
      | (exfalso; omega))
    all_goals
      refine LoopW.to (LoopW.upP g (fun k => [(0, LQ l), (5, I k)]) (fun _ => []) (fun k => ∀ i (h : i < l.length), i < k → briefB l[i] = true) l.length (fun k hk hp ih => ?_) 0 (Nat.zero_le _) (fun i _ hi => absurd hi (Nat.not_lt_zero _))) rfl rfl
      by_cases hlt : k < l.length
      · have hb := r_Brief g l[k]
        cases hq : briefB l[k]
        · have hno : l.all briefB = false := by
            rw [List.all_eq_false]
            exact ⟨_, List.getElem_mem hlt, by rw [hq]; decide⟩
          rw [hno]
          rw [hq] at hb
          repeat' ((conv => whnf); first
          | refine Br.tt ?_
          | refine Br.ff ?_
          | refine Need.w ?_
          | refine Wr.w ?_
          | refine Cmp.t ?_
          | refine Cmp.f ?_
          | refine Rem.w ?_
          | refine Quo.w ?_
          | refine PickV.now rfl ?_
          | refine Pick.now rfl ?_
          | refine Chk.mk rfl ?_
          | refine PickW.w rfl ?_
            | (refine PickW.rec Rqt.cells_length k rfl hlt ?_)
            | (refine CallI.of hb ?_)
            | (refine Ret.mk rfl))
        · rw [hq] at hb
          have ih := ih hlt fun i h hi => by
            by_cases e : i = k
            · subst e; exact hq
            · exact hp i h (by omega)
          repeat' ((conv => whnf); first
          | refine Br.tt ?_
          | refine Br.ff ?_
          | refine Need.w ?_
          | refine Wr.w ?_
          | refine Cmp.t ?_
          | refine Cmp.f ?_
          | refine Rem.w ?_
          | refine Quo.w ?_
          | refine PickV.now rfl ?_
          | refine Pick.now rfl ?_
          | refine Chk.mk rfl ?_
          | refine PickW.w rfl ?_
            | (refine PickW.rec Rqt.cells_length k rfl hlt ?_)
            | (refine CallI.of hb ?_)
            | (refine LoopW.to ih rfl rfl))
      · have hall : l.all briefB = true := List.all_eq_true.2 fun x hx => by
          obtain ⟨i, hi, rfl⟩ := List.getElem_of_mem hx
          exact hp i hi (by omega)
        rw [hall]
        repeat' ((conv => whnf); first
        | refine Br.tt ?_
        | refine Br.ff ?_
        | refine Need.w ?_
        | refine Wr.w ?_
        | refine Cmp.t ?_
        | refine Cmp.f ?_
        | refine Rem.w ?_
        | refine Quo.w ?_
        | refine PickV.now rfl ?_
        | refine Pick.now rfl ?_
        | refine Chk.mk rfl ?_
        | refine PickW.w rfl ?_
          | (refine Ret.mk rfl))
  · rw [decide_eq_false hl, Bool.false_and]
    repeat' ((conv => whnf); first
    | refine Br.tt ?_
    | refine Br.ff ?_
    | refine Need.w ?_
    | refine Wr.w ?_
    | refine Cmp.t ?_
    | refine Cmp.f ?_
    | refine Rem.w ?_
    | refine Quo.w ?_
    | refine PickV.now rfl ?_
    | refine Pick.now rfl ?_
    | refine Chk.mk rfl ?_
    | refine PickW.w rfl ?_
      | (refine Cmp.mk (fun h => ?_) (fun h => ?_))
      | (refine Rem.any (by omega) (fun r hr he => ?_))
      | (refine Br.mk (fun h => ?_) (fun h => ?_))
      | (refine Ret.mk rfl)
      | (exfalso; omega))
end
end Go.Proofs.YtknmjcikgegghaaGreatDoor.Co
